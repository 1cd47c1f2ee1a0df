/- Several texts in one (wip/pack.py): XInq6D XInq6 XInqHD XInqH XInqS1D XInqS1 XInqS2D XInqS2 XInqOa XInqObD XInqOb XInqOcD XSyHx XInqOc XInqS4D XInqS4 XInqLExplainedD XInqLExplained XInqPa XInqPb XInqPc XInqPd XInqPe XInqPf. -/
import Derived.Test.YtikhnofbbcmpeaaGreatRows
import Derived.Test.YtikhnofbbcmpeaaGreatQIE05
import Derived.Test.YtikhnofbbcmpeaaGreatQIE06
set_option maxRecDepth 100000
set_option linter.unusedVariables false
namespace Go.Proofs.YtikhnofbbcmpeaaGreat
open Go Go.Sy
noncomputable def xkD (office_Owner t delay : Int) (office_Lines ships list : List (List Int)) (y0 : List U) : List (List Int) :=
 putRow 1 [(ships.getD (gi y0 2).toNat []).getD 0 (0 : Int)]
 [(ships.getD (gi y0 2).toNat []).getD 0 (0 : Int), encL (decL ((ships.getD (gi y0 2).toNat []).getD 1 (0 : Int)))] (gr y0 3)
noncomputable def xce (office_Owner t delay : Int) (office_Lines ships list : List (List Int)) : List U :=
 [.b (false), .i ((0 : Int)), .i ((0 : Int)), .r ([])]
noncomputable def xbj (office_Owner t delay : Int) (office_Lines ships list : List (List Int)) (y0 : List U) : Option (Nat × List U) :=
 (bif decide (gi y0 2 < (↑ships.length : Int)) then xab (inR (gi y0 2) ships) (xab (inR (gi y0 2) ships) (xab (xaF ((ships.getD (gi y0 2).toNat []).getD 0 (0 : Int)) (decL ((ships.getD (gi y0 2).toNat []).getD 1 (0 : Int)))) ((bif !xae ((ships.getD (gi y0 2).toNat []).getD 0 (0 : Int)) (decL ((ships.getD (gi y0 2).toNat []).getD 1 (0 : Int))) ||
 decide ((ships.getD (gi y0 2).toNat []).getD 0 (0 : Int) ≤ gi y0 1) then some (1, [.i (office_Owner), .i (t), .i (delay), .r (gr y0 3)]) else some (0, [.b (gb y0 0), .i ((ships.getD (gi y0 2).toNat []).getD 0 (0 : Int)), .i (IntKind.i64.wrap (gi y0 2 + (1 : Int))), .r ((xkD office_Owner t delay office_Lines ships list y0))]))))) else some (3, [.b (gb y0 0), .i (gi y0 1), .i (gi y0 2), .r (gr y0 3)]))
noncomputable def xaq (office_Owner t delay : Int) (office_Lines ships list : List (List Int)) : Nat × List U := xan (xbj office_Owner t delay office_Lines ships list) (xce office_Owner t delay office_Lines ships list)
noncomputable def xc1 (office_Owner t delay : Int) (office_Lines ships list : List (List Int)) : List U :=
 [.i ((0 : Int)), .i ((0 : Int))]
noncomputable def xbi (office_Owner t delay : Int) (office_Lines ships list : List (List Int)) (y1 : List U) : Option (Nat × List U) :=
 (bif decide (gi y1 1 < (↑list.length : Int)) then xab (inR (gi y1 1) list) (xab (inR (gi y1 1) list) ((bif !(xbU 1 [(list.getD (gi y1 1).toNat []).getD 0 (0 : Int)] (gr (xaq office_Owner t delay office_Lines ships list).snd 3)).isSome then some (1, [.i (gi y1 1)]) else some (0, [.i (gi y1 0), .i (IntKind.i64.wrap (gi y1 1 + (1 : Int)))])))) else some (3, [.i (gi y1 0), .i (gi y1 1)]))
noncomputable def xbK (office_Owner t delay : Int) (office_Lines ships list : List (List Int)) : Nat × List U := xan (xbi office_Owner t delay office_Lines ships list) (xc1 office_Owner t delay office_Lines ships list)
noncomputable def xhz (office_Owner t delay : Int) (office_Lines ships list : List (List Int)) (y2 : List U) : List Int :=
 [((xal office_Owner t delay office_Lines (gr (xaq office_Owner t delay office_Lines ships list).snd 3) list).getD (gi y2 0).toNat []).getD 0 (0 : Int),
 ((xal office_Owner t delay office_Lines (gr (xaq office_Owner t delay office_Lines ships list).snd 3) list).getD (gi y2 0).toNat []).getD 1 (0 : Int)]
noncomputable def xgY (office_Owner t delay : Int) (office_Lines ships list : List (List Int)) : List U :=
 [.i ((0 : Int)), .r ([])]
noncomputable def xcd (office_Owner t delay : Int) (office_Lines ships list : List (List Int)) (y2 : List U) : Option (Nat × List U) :=
 (bif decide (gi y2 0 < (↑(xal office_Owner t delay office_Lines (gr (xaq office_Owner t delay office_Lines ships list).snd 3) list).length : Int)) then xab (inR (gi y2 0) (xal office_Owner t delay office_Lines (gr (xaq office_Owner t delay office_Lines ships list).snd 3) list)) (xab (inR (gi y2 0) (xal office_Owner t delay office_Lines (gr (xaq office_Owner t delay office_Lines ships list).snd 3) list)) (xab (xbf 16 ((gr y2 1).length + [(xhz office_Owner t delay office_Lines ships list y2)].length)) (some (0, [.i (IntKind.i64.wrap (gi y2 0 + (1 : Int))), .r (gr y2 1 ++ [(xhz office_Owner t delay office_Lines ships list y2)])])))) else some (2, [.i (gi y2 0), .r (gr y2 1)]))
noncomputable def xkE (office_Owner t delay : Int) (office_Lines ships list : List (List Int)) : Nat × List U := xan (xcd office_Owner t delay office_Lines ships list) (xgY office_Owner t delay office_Lines ships list)
noncomputable def xkC (office_Owner t delay : Int) (office_Lines ships list : List (List Int)) : List (List Int) :=
 bif !!decide ((bif (xbK office_Owner t delay office_Lines ships list).fst.beq 1 then gi (xbK office_Owner t delay office_Lines ships list).snd 0 else (-1 : Int)) ≥ (0 : Int)) then [] else gr (xkE office_Owner t delay office_Lines ships list).snd 1
noncomputable def xkB (office_Owner t delay : Int) (office_Lines ships list : List (List Int)) : List (List Int) :=
 bif !xae office_Owner office_Lines || office_Owner != (0 : Int) || !xaA list || !xav t || decide (delay < (0 : Int)) || decide (delay > (100000 : Int)) then []
else bif (xaq office_Owner t delay office_Lines ships list).fst.beq 1 then [] else (xkC office_Owner t delay office_Lines ships list)
noncomputable def xej (office_Owner t delay : Int) (office_Lines ships list : List (List Int)) : List (List Int) :=
 (xkB office_Owner t delay office_Lines ships list)
noncomputable def xkA (office_Owner t delay : Int) (office_Lines ships list : List (List Int)) : Int :=
 bif !!decide ((bif (xbK office_Owner t delay office_Lines ships list).fst.beq 1 then gi (xbK office_Owner t delay office_Lines ships list).snd 0 else (-1 : Int)) ≥ (0 : Int)) then (1 : Int) else (0 : Int)
noncomputable def xkz (office_Owner t delay : Int) (office_Lines ships list : List (List Int)) : Int :=
 bif !xae office_Owner office_Lines || office_Owner != (0 : Int) || !xaA list || !xav t || decide (delay < (0 : Int)) || decide (delay > (100000 : Int)) then
 (1 : Int)
else bif (xaq office_Owner t delay office_Lines ships list).fst.beq 1 then (1 : Int) else (xkA office_Owner t delay office_Lines ships list)
noncomputable def xei (office_Owner t delay : Int) (office_Lines ships list : List (List Int)) : Int :=
 (xkz office_Owner t delay office_Lines ships list)
def xcW (office_Owner t delay : Int) (office_Lines ships list : List (List Int)) : Prop :=
 ((xaF office_Owner office_Lines) ∧ ((((!xae office_Owner office_Lines || office_Owner != (0 : Int)) = false) → (xbx list)) ∧ (((!xae office_Owner office_Lines || office_Owner != (0 : Int) || !xaA list || !xav t || decide (delay < (0 : Int)) || decide (delay > (100000 : Int))) = false) → (((xaz (xbj office_Owner t delay office_Lines ships list) (xce office_Owner t delay office_Lines ships list))) ∧ (((xaq office_Owner t delay office_Lines ships list).fst.beq 1 = false) → (((xaz (xbi office_Owner t delay office_Lines ships list) (xc1 office_Owner t delay office_Lines ships list))) ∧ (((!!decide ((bif (xbK office_Owner t delay office_Lines ships list).fst.beq 1 then gi (xbK office_Owner t delay office_Lines ships list).snd 0 else (-1 : Int)) ≥ (0 : Int))) = false) → ((xcX office_Owner t delay office_Lines (gr (xaq office_Owner t delay office_Lines ships list).snd 3) list) ∧ ((xaz (xcd office_Owner t delay office_Lines ships list) (xgY office_Owner t delay office_Lines ships list)))))))))))
noncomputable def xmZ (office_Owner t delay : Int) (office_Lines ships list : List (List Int)) (y0 : List U) : List (List Int) :=
 putRow 1 [(ships.getD (gi y0 2).toNat []).getD 0 (0 : Int)]
 [(ships.getD (gi y0 2).toNat []).getD 0 (0 : Int), encL (decL ((ships.getD (gi y0 2).toNat []).getD 1 (0 : Int)))] (gr y0 3)
noncomputable def xd6 (office_Owner t delay : Int) (office_Lines ships list : List (List Int)) : List U :=
 [.b (false), .i ((0 : Int)), .i ((0 : Int)), .r ([])]
noncomputable def xd5 (office_Owner t delay : Int) (office_Lines ships list : List (List Int)) (y0 : List U) : Option (Nat × List U) :=
 (bif decide (gi y0 2 < (↑ships.length : Int)) then xab (inR (gi y0 2) ships) (xab (inR (gi y0 2) ships) (xab (xaF ((ships.getD (gi y0 2).toNat []).getD 0 (0 : Int)) (decL ((ships.getD (gi y0 2).toNat []).getD 1 (0 : Int)))) ((bif !xae ((ships.getD (gi y0 2).toNat []).getD 0 (0 : Int)) (decL ((ships.getD (gi y0 2).toNat []).getD 1 (0 : Int))) ||
 decide ((ships.getD (gi y0 2).toNat []).getD 0 (0 : Int) ≤ gi y0 1) then some (1, [.i (office_Owner), .i (t), .i (delay), .r (gr y0 3)]) else some (0, [.b (gb y0 0), .i ((ships.getD (gi y0 2).toNat []).getD 0 (0 : Int)), .i (IntKind.i64.wrap (gi y0 2 + (1 : Int))), .r ((xmZ office_Owner t delay office_Lines ships list y0))]))))) else some (3, [.b (gb y0 0), .i (gi y0 1), .i (gi y0 2), .r (gr y0 3)]))
noncomputable def xaP (office_Owner t delay : Int) (office_Lines ships list : List (List Int)) : Nat × List U := xan (xd5 office_Owner t delay office_Lines ships list) (xd6 office_Owner t delay office_Lines ships list)
noncomputable def xd4 (office_Owner t delay : Int) (office_Lines ships list : List (List Int)) : List U :=
 [.i ((0 : Int)), .i ((0 : Int))]
noncomputable def xd3 (office_Owner t delay : Int) (office_Lines ships list : List (List Int)) (y1 : List U) : Option (Nat × List U) :=
 (bif decide (gi y1 1 < (↑list.length : Int)) then xab (inR (gi y1 1) list) (xab (inR (gi y1 1) list) ((bif !(xbU 1 [(list.getD (gi y1 1).toNat []).getD 0 (0 : Int)] (gr (xaP office_Owner t delay office_Lines ships list).snd 3)).isSome then some (1, [.i (gi y1 1)]) else some (0, [.i (gi y1 0), .i (IntKind.i64.wrap (gi y1 1 + (1 : Int)))])))) else some (3, [.i (gi y1 0), .i (gi y1 1)]))
noncomputable def xbs (office_Owner t delay : Int) (office_Lines ships list : List (List Int)) : Nat × List U := xan (xd3 office_Owner t delay office_Lines ships list) (xd4 office_Owner t delay office_Lines ships list)
noncomputable def xh0 (office_Owner t delay : Int) (office_Lines ships list : List (List Int)) : List (List Int) :=
 bif !!decide ((bif (xbs office_Owner t delay office_Lines ships list).fst.beq 1 then gi (xbs office_Owner t delay office_Lines ships list).snd 0 else (-1 : Int)) ≥ (0 : Int)) then []
else xch (xal office_Owner t delay office_Lines (gr (xaP office_Owner t delay office_Lines ships list).snd 3) list)
noncomputable def xhZ (office_Owner t delay : Int) (office_Lines ships list : List (List Int)) : List (List Int) :=
 bif !xae office_Owner office_Lines || office_Owner != (0 : Int) || !xaA list || !xav t || decide (delay < (0 : Int)) || decide (delay > (100000 : Int)) then []
else bif (xaP office_Owner t delay office_Lines ships list).fst.beq 1 then [] else (xh0 office_Owner t delay office_Lines ships list)
noncomputable def xam (office_Owner t delay : Int) (office_Lines ships list : List (List Int)) : List (List Int) :=
 (xhZ office_Owner t delay office_Lines ships list)
noncomputable def xhY (office_Owner t delay : Int) (office_Lines ships list : List (List Int)) : List (List Int) :=
 bif !!decide ((bif (xbs office_Owner t delay office_Lines ships list).fst.beq 1 then gi (xbs office_Owner t delay office_Lines ships list).snd 0 else (-1 : Int)) ≥ (0 : Int)) then []
else
 xxG (↑(xch (xal office_Owner t delay office_Lines (gr (xaP office_Owner t delay office_Lines ships list).snd 3) list)).length : Int)
  (xal office_Owner t delay office_Lines (gr (xaP office_Owner t delay office_Lines ships list).snd 3) list)
noncomputable def xhX (office_Owner t delay : Int) (office_Lines ships list : List (List Int)) : List (List Int) :=
 bif !xae office_Owner office_Lines || office_Owner != (0 : Int) || !xaA list || !xav t || decide (delay < (0 : Int)) || decide (delay > (100000 : Int)) then []
else bif (xaP office_Owner t delay office_Lines ships list).fst.beq 1 then [] else (xhY office_Owner t delay office_Lines ships list)
noncomputable def xdg (office_Owner t delay : Int) (office_Lines ships list : List (List Int)) : List (List Int) :=
 (xhX office_Owner t delay office_Lines ships list)
noncomputable def xhW (office_Owner t delay : Int) (office_Lines ships list : List (List Int)) : Int :=
 bif !!decide ((bif (xbs office_Owner t delay office_Lines ships list).fst.beq 1 then gi (xbs office_Owner t delay office_Lines ships list).snd 0 else (-1 : Int)) ≥ (0 : Int)) then (1 : Int) else (0 : Int)
noncomputable def xhV (office_Owner t delay : Int) (office_Lines ships list : List (List Int)) : Int :=
 bif !xae office_Owner office_Lines || office_Owner != (0 : Int) || !xaA list || !xav t || decide (delay < (0 : Int)) || decide (delay > (100000 : Int)) then
 (1 : Int)
else bif (xaP office_Owner t delay office_Lines ships list).fst.beq 1 then (1 : Int) else (xhW office_Owner t delay office_Lines ships list)
noncomputable def xbB (office_Owner t delay : Int) (office_Lines ships list : List (List Int)) : Int :=
 (xhV office_Owner t delay office_Lines ships list)
def xby (office_Owner t delay : Int) (office_Lines ships list : List (List Int)) : Prop :=
 ((xaF office_Owner office_Lines) ∧ ((((!xae office_Owner office_Lines || office_Owner != (0 : Int)) = false) → (xbx list)) ∧ (((!xae office_Owner office_Lines || office_Owner != (0 : Int) || !xaA list || !xav t || decide (delay < (0 : Int)) || decide (delay > (100000 : Int))) = false) → (((xaz (xd5 office_Owner t delay office_Lines ships list) (xd6 office_Owner t delay office_Lines ships list))) ∧ (((xaP office_Owner t delay office_Lines ships list).fst.beq 1 = false) → (((xaz (xd3 office_Owner t delay office_Lines ships list) (xd4 office_Owner t delay office_Lines ships list))) ∧ (((!!decide ((bif (xbs office_Owner t delay office_Lines ships list).fst.beq 1 then gi (xbs office_Owner t delay office_Lines ships list).snd 0 else (-1 : Int)) ≥ (0 : Int))) = false) → ((xcX office_Owner t delay office_Lines (gr (xaP office_Owner t delay office_Lines ships list).snd 3) list) ∧ ((xb5 (xal office_Owner t delay office_Lines (gr (xaP office_Owner t delay office_Lines ships list).snd 3) list)) ∧ (xtt (↑(xch (xal office_Owner t delay office_Lines (gr (xaP office_Owner t delay office_Lines ships list).snd 3) list)).length : Int)
 (xal office_Owner t delay office_Lines (gr (xaP office_Owner t delay office_Lines ships list).snd 3) list)))))))))))
noncomputable def xnP (office_Owner t delay : Int) (office_Lines ships list omissions proof : List (List Int)) (y0 : List U) : List (List Int) :=
 putRow 1 [(ships.getD (gi y0 2).toNat []).getD 0 (0 : Int)]
 [(ships.getD (gi y0 2).toNat []).getD 0 (0 : Int), encL (decL ((ships.getD (gi y0 2).toNat []).getD 1 (0 : Int)))] (gr y0 3)
noncomputable def xeA (office_Owner t delay : Int) (office_Lines ships list omissions proof : List (List Int)) : List U :=
 [.b (false), .i ((0 : Int)), .i ((0 : Int)), .r ([])]
noncomputable def xez (office_Owner t delay : Int) (office_Lines ships list omissions proof : List (List Int)) (y0 : List U) : Option (Nat × List U) :=
 (bif decide (gi y0 2 < (↑ships.length : Int)) then xab (inR (gi y0 2) ships) (xab (inR (gi y0 2) ships) (xab (xaF ((ships.getD (gi y0 2).toNat []).getD 0 (0 : Int)) (decL ((ships.getD (gi y0 2).toNat []).getD 1 (0 : Int)))) ((bif !xae ((ships.getD (gi y0 2).toNat []).getD 0 (0 : Int)) (decL ((ships.getD (gi y0 2).toNat []).getD 1 (0 : Int))) ||
 decide ((ships.getD (gi y0 2).toNat []).getD 0 (0 : Int) ≤ gi y0 1) then some (1, [.i (office_Owner), .i (t), .i (delay), .r (gr y0 3)]) else some (0, [.b (gb y0 0), .i ((ships.getD (gi y0 2).toNat []).getD 0 (0 : Int)), .i (IntKind.i64.wrap (gi y0 2 + (1 : Int))), .r ((xnP office_Owner t delay office_Lines ships list omissions proof y0))]))))) else some (3, [.b (gb y0 0), .i (gi y0 1), .i (gi y0 2), .r (gr y0 3)]))
noncomputable def xap (office_Owner t delay : Int) (office_Lines ships list omissions proof : List (List Int)) : Nat × List U := xan (xez office_Owner t delay office_Lines ships list omissions proof) (xeA office_Owner t delay office_Lines ships list omissions proof)
noncomputable def xey (office_Owner t delay : Int) (office_Lines ships list omissions proof : List (List Int)) : List U :=
 [.i ((0 : Int)), .i ((0 : Int))]
noncomputable def xex (office_Owner t delay : Int) (office_Lines ships list omissions proof : List (List Int)) (y1 : List U) : Option (Nat × List U) :=
 (bif decide (gi y1 1 < (↑list.length : Int)) then xab (inR (gi y1 1) list) (xab (inR (gi y1 1) list) ((bif !(xbU 1 [(list.getD (gi y1 1).toNat []).getD 0 (0 : Int)] (gr (xap office_Owner t delay office_Lines ships list omissions proof).snd 3)).isSome then some (1, [.i (gi y1 1)]) else some (0, [.i (gi y1 0), .i (IntKind.i64.wrap (gi y1 1 + (1 : Int)))])))) else some (3, [.i (gi y1 0), .i (gi y1 1)]))
noncomputable def xcx (office_Owner t delay : Int) (office_Lines ships list omissions proof : List (List Int)) : Nat × List U := xan (xex office_Owner t delay office_Lines ships list omissions proof) (xey office_Owner t delay office_Lines ships list omissions proof)
noncomputable def xiW (office_Owner t delay : Int) (office_Lines ships list omissions proof : List (List Int)) (y2 : List U) : Int :=
 xdf ((omissions.getD (IntKind.i64.wrap (gi y2 1 - (1 : Int))).toNat []).getD 0 (0 : Int))
 ((omissions.getD (IntKind.i64.wrap (gi y2 1 - (1 : Int))).toNat []).getD 1 (0 : Int))
 ((omissions.getD (IntKind.i64.wrap (gi y2 1 - (1 : Int))).toNat []).getD 2 (0 : Int)) ((omissions.getD (gi y2 1).toNat []).getD 0 (0 : Int))
 ((omissions.getD (gi y2 1).toNat []).getD 1 (0 : Int)) ((omissions.getD (gi y2 1).toNat []).getD 2 (0 : Int))
noncomputable def xew (office_Owner t delay : Int) (office_Lines ships list omissions proof : List (List Int)) : List U :=
 [.b (false), .i ((1 : Int))]
noncomputable def xcu (office_Owner t delay : Int) (office_Lines ships list omissions proof : List (List Int)) (y2 : List U) : Option (Nat × List U) :=
 (bif decide (gi y2 1 < (↑omissions.length : Int)) then xab (inR (IntKind.i64.wrap (gi y2 1 - (1 : Int))) omissions) (xab (inR (IntKind.i64.wrap (gi y2 1 - (1 : Int))) omissions) (xab (inR (gi y2 1) omissions) (xab (inR (gi y2 1) omissions) (xab (xbP ((omissions.getD (IntKind.i64.wrap (gi y2 1 - (1 : Int))).toNat []).getD 0 (0 : Int))
 ((omissions.getD (IntKind.i64.wrap (gi y2 1 - (1 : Int))).toNat []).getD 1 (0 : Int))
 ((omissions.getD (IntKind.i64.wrap (gi y2 1 - (1 : Int))).toNat []).getD 2 (0 : Int)) ((omissions.getD (gi y2 1).toNat []).getD 0 (0 : Int))
 ((omissions.getD (gi y2 1).toNat []).getD 1 (0 : Int)) ((omissions.getD (gi y2 1).toNat []).getD 2 (0 : Int))) ((bif decide ((xiW office_Owner t delay office_Lines ships list omissions proof y2) ≥ (0 : Int)) then some (1, []) else some (0, [.b (gb y2 0), .i (IntKind.i64.wrap (gi y2 1 + (1 : Int)))]))))))) else some (3, [.b (gb y2 0), .i (gi y2 1)]))
noncomputable def xdQ (office_Owner t delay : Int) (office_Lines ships list omissions proof : List (List Int)) : Nat × List U := xan (xcu office_Owner t delay office_Lines ships list omissions proof) (xew office_Owner t delay office_Lines ships list omissions proof)
noncomputable def xiV (office_Owner t delay : Int) (office_Lines ships list omissions proof : List (List Int)) (y3 : List U) : Int :=
 xeQ ((proof.getD (IntKind.i64.wrap (gi y3 1 - (1 : Int))).toNat []).getD 0 (0 : Int))
 ((proof.getD (IntKind.i64.wrap (gi y3 1 - (1 : Int))).toNat []).getD 1 (0 : Int)) ((proof.getD (gi y3 1).toNat []).getD 0 (0 : Int))
 ((proof.getD (gi y3 1).toNat []).getD 1 (0 : Int))
noncomputable def xev (office_Owner t delay : Int) (office_Lines ships list omissions proof : List (List Int)) : List U :=
 [.b (false), .i ((1 : Int))]
noncomputable def xct (office_Owner t delay : Int) (office_Lines ships list omissions proof : List (List Int)) (y3 : List U) : Option (Nat × List U) :=
 (bif decide (gi y3 1 < (↑proof.length : Int)) then xab (inR (IntKind.i64.wrap (gi y3 1 - (1 : Int))) proof) (xab (inR (IntKind.i64.wrap (gi y3 1 - (1 : Int))) proof) (xab (inR (gi y3 1) proof) (xab (inR (gi y3 1) proof) (xab (xde ((proof.getD (IntKind.i64.wrap (gi y3 1 - (1 : Int))).toNat []).getD 0 (0 : Int))
 ((proof.getD (IntKind.i64.wrap (gi y3 1 - (1 : Int))).toNat []).getD 1 (0 : Int)) ((proof.getD (gi y3 1).toNat []).getD 0 (0 : Int))
 ((proof.getD (gi y3 1).toNat []).getD 1 (0 : Int))) ((bif decide ((xiV office_Owner t delay office_Lines ships list omissions proof y3) ≥ (0 : Int)) then some (1, []) else some (0, [.b (gb y3 0), .i (IntKind.i64.wrap (gi y3 1 + (1 : Int)))]))))))) else some (3, [.b (gb y3 0), .i (gi y3 1)]))
noncomputable def xe5 (office_Owner t delay : Int) (office_Lines ships list omissions proof : List (List Int)) : Nat × List U := xan (xct office_Owner t delay office_Lines ships list omissions proof) (xev office_Owner t delay office_Lines ships list omissions proof)
noncomputable def xet (office_Owner t delay : Int) (office_Lines ships list omissions proof : List (List Int)) (y4 : List U) : List U :=
 [.i ((0 : Int)), .i ((0 : Int))]
noncomputable def xcs (office_Owner t delay : Int) (office_Lines ships list omissions proof : List (List Int)) (y4 : List U) (y5 : List U) : Option (Nat × List U) :=
 (bif decide (gi y5 1 < (↑omissions.length : Int)) then xab (inR (gi y5 1) omissions) (xab (inR (gi y5 1) omissions) ((bif xgq (((xal office_Owner t delay office_Lines (gr (xap office_Owner t delay office_Lines ships list omissions proof).snd 3) list).getD (gi y4 2).toNat []).getD 0 (0 : Int))
 (((xal office_Owner t delay office_Lines (gr (xap office_Owner t delay office_Lines ships list omissions proof).snd 3) list).getD (gi y4 2).toNat []).getD 1 (0 : Int))
 (((xal office_Owner t delay office_Lines (gr (xap office_Owner t delay office_Lines ships list omissions proof).snd 3) list).getD (gi y4 2).toNat []).getD 2 (0 : Int) != (0 : Int))
 (((xal office_Owner t delay office_Lines (gr (xap office_Owner t delay office_Lines ships list omissions proof).snd 3) list).getD (gi y4 2).toNat []).getD 3 (0 : Int) != (0 : Int))
 ((omissions.getD (gi y5 1).toNat []).getD 0 (0 : Int)) ((omissions.getD (gi y5 1).toNat []).getD 1 (0 : Int))
 ((omissions.getD (gi y5 1).toNat []).getD 2 (0 : Int)) then some (1, [.i (gi y5 1)]) else some (0, [.i (gi y5 0), .i (IntKind.i64.wrap (gi y5 1 + (1 : Int)))])))) else some (3, [.i (gi y5 0), .i (gi y5 1)]))
noncomputable def xe4 (office_Owner t delay : Int) (office_Lines ships list omissions proof : List (List Int)) (y4 : List U) : Nat × List U := xan (xcs office_Owner t delay office_Lines ships list omissions proof y4) (xet office_Owner t delay office_Lines ships list omissions proof y4)
noncomputable def xes (office_Owner t delay : Int) (office_Lines ships list omissions proof : List (List Int)) (y4 : List U) : List U :=
 [.i ((0 : Int)), .i ((0 : Int))]
noncomputable def xcr (office_Owner t delay : Int) (office_Lines ships list omissions proof : List (List Int)) (y4 : List U) (y6 : List U) : Option (Nat × List U) :=
 (bif decide (gi y6 1 < (↑proof.length : Int)) then xab (inR (gi y6 1) proof) (xab (inR (gi y6 1) proof) ((bif ((xal office_Owner t delay office_Lines (gr (xap office_Owner t delay office_Lines ships list omissions proof).snd 3) list).getD (gi y4 2).toNat []).getD 0 (0 : Int) ==
  (proof.getD (gi y6 1).toNat []).getD 0 (0 : Int) &&
 (((xal office_Owner t delay office_Lines (gr (xap office_Owner t delay office_Lines ships list omissions proof).snd 3) list).getD (gi y4 2).toNat []).getD 1 (0 : Int) ==
   (proof.getD (gi y6 1).toNat []).getD 1 (0 : Int) &&
  true) then some (1, [.i (gi y6 1)]) else some (0, [.i (gi y6 0), .i (IntKind.i64.wrap (gi y6 1 + (1 : Int)))])))) else some (3, [.i (gi y6 0), .i (gi y6 1)]))
noncomputable def xe3 (office_Owner t delay : Int) (office_Lines ships list omissions proof : List (List Int)) (y4 : List U) : Nat × List U := xan (xcr office_Owner t delay office_Lines ships list omissions proof y4) (xes office_Owner t delay office_Lines ships list omissions proof y4)
noncomputable def xer (office_Owner t delay : Int) (office_Lines ships list omissions proof : List (List Int)) (y4 : List U) : List U :=
 [.i ((0 : Int)), .i ((0 : Int))]
noncomputable def xcq (office_Owner t delay : Int) (office_Lines ships list omissions proof : List (List Int)) (y4 : List U) (y7 : List U) : Option (Nat × List U) :=
 (bif decide (gi y7 1 < (↑(gr y4 3).length : Int)) then xab (inR (gi y7 1) (gr y4 3)) (xab (inR (gi y7 1) (gr y4 3)) ((bif !xfX (((xal office_Owner t delay office_Lines (gr (xap office_Owner t delay office_Lines ships list omissions proof).snd 3) list).getD (gi y4 2).toNat []).getD 0 (0 : Int))
  (((xal office_Owner t delay office_Lines (gr (xap office_Owner t delay office_Lines ships list omissions proof).snd 3) list).getD (gi y4 2).toNat []).getD 1 (0 : Int))
  (((xal office_Owner t delay office_Lines (gr (xap office_Owner t delay office_Lines ships list omissions proof).snd 3) list).getD (gi y4 2).toNat []).getD 2 (0 : Int) != (0 : Int))
  (((xal office_Owner t delay office_Lines (gr (xap office_Owner t delay office_Lines ships list omissions proof).snd 3) list).getD (gi y4 2).toNat []).getD 3 (0 : Int) != (0 : Int))
  (((gr y4 3).getD (gi y7 1).toNat []).getD 0 (0 : Int)) (((gr y4 3).getD (gi y7 1).toNat []).getD 1 (0 : Int))
  (((gr y4 3).getD (gi y7 1).toNat []).getD 2 (0 : Int) != (0 : Int)) (((gr y4 3).getD (gi y7 1).toNat []).getD 3 (0 : Int) != (0 : Int)) then some (1, [.i (gi y7 1)]) else some (0, [.i (gi y7 0), .i (IntKind.i64.wrap (gi y7 1 + (1 : Int)))])))) else some (3, [.i (gi y7 0), .i (gi y7 1)]))
noncomputable def xe2 (office_Owner t delay : Int) (office_Lines ships list omissions proof : List (List Int)) (y4 : List U) : Nat × List U := xan (xcq office_Owner t delay office_Lines ships list omissions proof y4) (xer office_Owner t delay office_Lines ships list omissions proof y4)
noncomputable def xiU (office_Owner t delay : Int) (office_Lines ships list omissions proof : List (List Int)) (y4 : List U) : List Int :=
 [bif ((xal office_Owner t delay office_Lines (gr (xap office_Owner t delay office_Lines ships list omissions proof).snd 3) list).getD (gi y4 2).toNat []).getD 2 (0 : Int) != (0 : Int) then (1 : Int)
 else (0 : Int),
 bif ((xal office_Owner t delay office_Lines (gr (xap office_Owner t delay office_Lines ships list omissions proof).snd 3) list).getD (gi y4 2).toNat []).getD 3 (0 : Int) != (0 : Int) then (1 : Int)
 else (0 : Int)]
noncomputable def xe1 (office_Owner t delay : Int) (office_Lines ships list omissions proof : List (List Int)) (y4 : List U) : List Int :=
 ((xal office_Owner t delay office_Lines (gr (xap office_Owner t delay office_Lines ships list omissions proof).snd 3) list).getD (gi y4 2).toNat []).getD 0 (0 : Int) ::
 ((xal office_Owner t delay office_Lines (gr (xap office_Owner t delay office_Lines ships list omissions proof).snd 3) list).getD (gi y4 2).toNat []).getD 1 (0 : Int) :: (xiU office_Owner t delay office_Lines ships list omissions proof y4)
noncomputable def xeu (office_Owner t delay : Int) (office_Lines ships list omissions proof : List (List Int)) : List U :=
 [.b (false), .i ((0 : Int)), .i ((0 : Int)), .r ([])]
noncomputable def xbn (office_Owner t delay : Int) (office_Lines ships list omissions proof : List (List Int)) (y4 : List U) : Option (Nat × List U) :=
 (bif decide (gi y4 2 < (↑(xal office_Owner t delay office_Lines (gr (xap office_Owner t delay office_Lines ships list omissions proof).snd 3) list).length : Int)) then xab (inR (gi y4 2) (xal office_Owner t delay office_Lines (gr (xap office_Owner t delay office_Lines ships list omissions proof).snd 3) list)) (xab (inR (gi y4 2) (xal office_Owner t delay office_Lines (gr (xap office_Owner t delay office_Lines ships list omissions proof).snd 3) list)) (xab ((xaz (xcs office_Owner t delay office_Lines ships list omissions proof y4) (xet office_Owner t delay office_Lines ships list omissions proof y4))) ((bif !decide ((bif (xe4 office_Owner t delay office_Lines ships list omissions proof y4).fst.beq 1 then gi (xe4 office_Owner t delay office_Lines ships list omissions proof y4).snd 0 else (-1 : Int)) ≥ (0 : Int)) then some (1, []) else xab ((xaz (xcr office_Owner t delay office_Lines ships list omissions proof y4) (xes office_Owner t delay office_Lines ships list omissions proof y4))) ((bif decide ((bif (xe3 office_Owner t delay office_Lines ships list omissions proof y4).fst.beq 1 then gi (xe3 office_Owner t delay office_Lines ships list omissions proof y4).snd 0 else (-1 : Int)) ≥ (0 : Int)) then xab ((xaz (xcq office_Owner t delay office_Lines ships list omissions proof y4) (xer office_Owner t delay office_Lines ships list omissions proof y4))) ((bif decide ((bif (xe2 office_Owner t delay office_Lines ships list omissions proof y4).fst.beq 1 then gi (xe2 office_Owner t delay office_Lines ships list omissions proof y4).snd 0 else (-1 : Int)) ≥ (0 : Int)) then some (2, []) else xab (xbf 24 ((gr y4 3).length + [(xe1 office_Owner t delay office_Lines ships list omissions proof y4)].length)) (some (0, [.b (gb y4 0), .i (gi y4 1), .i (IntKind.i64.wrap (gi y4 2 + (1 : Int))), .r (gr y4 3 ++ [(xe1 office_Owner t delay office_Lines ships list omissions proof y4)])])))) else some (0, [.b (gb y4 0), .i (gi y4 1), .i (IntKind.i64.wrap (gi y4 2 + (1 : Int))), .r (gr y4 3)]))))))) else some (5, [.b (gb y4 0), .i (gi y4 1), .i (gi y4 2), .r (gr y4 3)]))
noncomputable def xba (office_Owner t delay : Int) (office_Lines ships list omissions proof : List (List Int)) : Nat × List U := xan (xbn office_Owner t delay office_Lines ships list omissions proof) (xeu office_Owner t delay office_Lines ships list omissions proof)
noncomputable def xcV (office_Owner t delay : Int) (office_Lines ships list omissions proof : List (List Int)) : Bool :=
 bif !xae office_Owner office_Lines || office_Owner != (0 : Int) || !xaA list || !xav t || decide (delay < (0 : Int)) || decide (delay > (100000 : Int)) then false
else
 bif (xap office_Owner t delay office_Lines ships list omissions proof).fst.beq 1 then false
 else
  bif !!decide ((bif (xcx office_Owner t delay office_Lines ships list omissions proof).fst.beq 1 then gi (xcx office_Owner t delay office_Lines ships list omissions proof).snd 0 else (-1 : Int)) ≥ (0 : Int)) then false
  else
   bif
     ((↑omissions.length : Int) != (↑proof.length : Int) || !bif (xdQ office_Owner t delay office_Lines ships list omissions proof).fst.beq 1 then false else true) ||
      !bif (xe5 office_Owner t delay office_Lines ships list omissions proof).fst.beq 1 then false else true then
    false
   else
    bif (xba office_Owner t delay office_Lines ships list omissions proof).fst.beq 1 then false
    else bif (xba office_Owner t delay office_Lines ships list omissions proof).fst.beq 2 then false else (↑(gr (xba office_Owner t delay office_Lines ships list omissions proof).snd 3).length : Int) == (↑proof.length : Int)
noncomputable def xiT (office_Owner t delay : Int) (office_Lines ships list omissions proof : List (List Int)) : Int :=
 bif ((↑omissions.length : Int) != (↑proof.length : Int) || !bif (xdQ office_Owner t delay office_Lines ships list omissions proof).fst.beq 1 then false else true) || !bif (xe5 office_Owner t delay office_Lines ships list omissions proof).fst.beq 1 then false else true then
 (0 : Int)
else bif (xba office_Owner t delay office_Lines ships list omissions proof).fst.beq 1 then (0 : Int) else bif (xba office_Owner t delay office_Lines ships list omissions proof).fst.beq 2 then (0 : Int) else (0 : Int)
noncomputable def xiS (office_Owner t delay : Int) (office_Lines ships list omissions proof : List (List Int)) : Int :=
 bif !!decide ((bif (xcx office_Owner t delay office_Lines ships list omissions proof).fst.beq 1 then gi (xcx office_Owner t delay office_Lines ships list omissions proof).snd 0 else (-1 : Int)) ≥ (0 : Int)) then (1 : Int) else (xiT office_Owner t delay office_Lines ships list omissions proof)
noncomputable def xiR (office_Owner t delay : Int) (office_Lines ships list omissions proof : List (List Int)) : Int :=
 bif !xae office_Owner office_Lines || office_Owner != (0 : Int) || !xaA list || !xav t || decide (delay < (0 : Int)) || decide (delay > (100000 : Int)) then
 (1 : Int)
else bif (xap office_Owner t delay office_Lines ships list omissions proof).fst.beq 1 then (1 : Int) else (xiS office_Owner t delay office_Lines ships list omissions proof)
noncomputable def xds (office_Owner t delay : Int) (office_Lines ships list omissions proof : List (List Int)) : Int :=
 (xiR office_Owner t delay office_Lines ships list omissions proof)
def xcc (office_Owner t delay : Int) (office_Lines ships list omissions proof : List (List Int)) : Prop :=
 ((xaF office_Owner office_Lines) ∧ ((((!xae office_Owner office_Lines || office_Owner != (0 : Int)) = false) → (xbx list)) ∧ (((!xae office_Owner office_Lines || office_Owner != (0 : Int) || !xaA list || !xav t || decide (delay < (0 : Int)) || decide (delay > (100000 : Int))) = false) → (((xaz (xez office_Owner t delay office_Lines ships list omissions proof) (xeA office_Owner t delay office_Lines ships list omissions proof))) ∧ (((xap office_Owner t delay office_Lines ships list omissions proof).fst.beq 1 = false) → (((xaz (xex office_Owner t delay office_Lines ships list omissions proof) (xey office_Owner t delay office_Lines ships list omissions proof))) ∧ (((!!decide ((bif (xcx office_Owner t delay office_Lines ships list omissions proof).fst.beq 1 then gi (xcx office_Owner t delay office_Lines ships list omissions proof).snd 0 else (-1 : Int)) ≥ (0 : Int))) = false) → (((((↑omissions.length : Int) != (↑proof.length : Int)) = false) → ((xaz (xcu office_Owner t delay office_Lines ships list omissions proof) (xew office_Owner t delay office_Lines ships list omissions proof)))) ∧ (((((↑omissions.length : Int) != (↑proof.length : Int) || !bif (xdQ office_Owner t delay office_Lines ships list omissions proof).fst.beq 1 then false else true) = false) → ((xaz (xct office_Owner t delay office_Lines ships list omissions proof) (xev office_Owner t delay office_Lines ships list omissions proof)))) ∧ (((((↑omissions.length : Int) != (↑proof.length : Int) || !bif (xdQ office_Owner t delay office_Lines ships list omissions proof).fst.beq 1 then false else true) || !bif (xe5 office_Owner t delay office_Lines ships list omissions proof).fst.beq 1 then false else true) = false) → ((xcX office_Owner t delay office_Lines (gr (xap office_Owner t delay office_Lines ships list omissions proof).snd 3) list) ∧ ((xaz (xbn office_Owner t delay office_Lines ships list omissions proof) (xeu office_Owner t delay office_Lines ships list omissions proof))))))))))))))
end Go.Proofs.YtikhnofbbcmpeaaGreat
set_option maxRecDepth 100000
set_option linter.unusedVariables false
namespace Go.Proofs.YtikhnofbbcmpeaaGreat
open Go Go.Sy
theorem xo8 (office_Owner t delay : Int) (office_Lines ships list : List (List Int)) : xau Tryz.prog 3 (xa2 Tryz.prog K31 xcU 9 22 [.agg [.int .i64 office_Owner, .sl 0], .sl 1, .sl 2, .int .i64 t, .int .i64 delay] ⟨[⟨0, 3, false, .row 29 [.int .i64, .int .i64, .int .i64, .int .u64] office_Lines⟩, ⟨1, 3, false, .nst 24 [.c (.int .i64), .s 29 [.int .i64, .int .i64, .int .i64, .int .u64]] ships⟩, ⟨2, 3, false, .row 41 [.int .i64, .int .i64, .int .i64] list⟩], 3⟩) = some ⟨some (xcW office_Owner t delay office_Lines ships list), [], 1, [⟨3, 3, true, .row 52 [.int .i64, .int .i64] (xej office_Owner t delay office_Lines ships list)⟩], .tup [.sl 3, .int .i64 (xei office_Owner t delay office_Lines ships list)]⟩ := by kernel_rfl
noncomputable def xjT : List U → Option Eff
 | [.i office_Owner, .i t, .i delay, .r office_Lines, .r ships, .r list] => some ⟨some (xcW office_Owner t delay office_Lines ships list), [], 1, [⟨3, 3, true, .row 52 [.int .i64, .int .i64] (xej office_Owner t delay office_Lines ships list)⟩], .tup [.sl 3, .int .i64 (xei office_Owner t delay office_Lines ships list)]⟩
 | _ => Option.none
noncomputable def K32 : Con := ext Tryz.prog K31 22 [.agg [.int .i64 0, .sl 0], .sl 1, .sl 2, .int .i64 0, .int .i64 0] [⟨0, 0, false, .row 29 [.int .i64, .int .i64, .int .i64, .int .u64] []⟩, ⟨1, 0, false, .nst 24 [.c (.int .i64), .s 29 [.int .i64, .int .i64, .int .i64, .int .u64]] []⟩, ⟨2, 0, false, .row 41 [.int .i64, .int .i64, .int .i64] []⟩] xjT
theorem xCM : xbc Tryz.prog K32 := xaw xaC xCN (n := 9) rfl rfl fun us x h => by
 unfold xjT at h
 split at h
 ·cases h; exact ⟨some (xcW _ _ _ _ _ _), xo8 _ _ _ _ _ _, fun h => h⟩
 ·cases h
theorem xl1 (office_Owner t delay : Int) (office_Lines ships list : List (List Int)) : xau Tryz.prog 3 (xa2 Tryz.prog K32 xcU 9 24 [.agg [.int .i64 office_Owner, .sl 0], .sl 1, .sl 2, .int .i64 t, .int .i64 delay] ⟨[⟨0, 3, false, .row 29 [.int .i64, .int .i64, .int .i64, .int .u64] office_Lines⟩, ⟨1, 3, false, .nst 24 [.c (.int .i64), .s 29 [.int .i64, .int .i64, .int .i64, .int .u64]] ships⟩, ⟨2, 3, false, .row 41 [.int .i64, .int .i64, .int .i64] list⟩], 3⟩) = some ⟨some (xby office_Owner t delay office_Lines ships list), [], 2, [⟨3, 3, true, .row 80 [.int .i64, .int .i64, .int .i64] (xam office_Owner t delay office_Lines ships list)⟩, ⟨4, 3, true, .row 52 [.int .i64, .int .i64] (xdg office_Owner t delay office_Lines ships list)⟩], .tup [.sl 3, .sl 4, .int .i64 (xbB office_Owner t delay office_Lines ships list)]⟩ := by kernel_rfl
noncomputable def xhA : List U → Option Eff
 | [.i office_Owner, .i t, .i delay, .r office_Lines, .r ships, .r list] => some ⟨some (xby office_Owner t delay office_Lines ships list), [], 2, [⟨3, 3, true, .row 80 [.int .i64, .int .i64, .int .i64] (xam office_Owner t delay office_Lines ships list)⟩, ⟨4, 3, true, .row 52 [.int .i64, .int .i64] (xdg office_Owner t delay office_Lines ships list)⟩], .tup [.sl 3, .sl 4, .int .i64 (xbB office_Owner t delay office_Lines ships list)]⟩
 | _ => Option.none
noncomputable def K33 : Con := ext Tryz.prog K32 24 [.agg [.int .i64 0, .sl 0], .sl 1, .sl 2, .int .i64 0, .int .i64 0] [⟨0, 0, false, .row 29 [.int .i64, .int .i64, .int .i64, .int .u64] []⟩, ⟨1, 0, false, .nst 24 [.c (.int .i64), .s 29 [.int .i64, .int .i64, .int .i64, .int .u64]] []⟩, ⟨2, 0, false, .row 41 [.int .i64, .int .i64, .int .i64] []⟩] xhA
theorem xCL : xbc Tryz.prog K33 := xaw xaC xCM (n := 9) rfl rfl fun us x h => by
 unfold xhA at h
 split at h
 ·cases h; exact ⟨some (xby _ _ _ _ _ _), xl1 _ _ _ _ _ _, fun h => h⟩
 ·cases h
theorem xmY (office_Owner t delay : Int) (office_Lines ships list omissions proof : List (List Int)) : xau Tryz.prog 5 (xa2 Tryz.prog K33 xcU 9 28 [.agg [.int .i64 office_Owner, .sl 0], .sl 1, .sl 2, .int .i64 t, .int .i64 delay, .sl 3, .sl 4] ⟨[⟨0, 5, false, .row 29 [.int .i64, .int .i64, .int .i64, .int .u64] office_Lines⟩, ⟨1, 5, false, .nst 24 [.c (.int .i64), .s 29 [.int .i64, .int .i64, .int .i64, .int .u64]] ships⟩, ⟨2, 5, false, .row 41 [.int .i64, .int .i64, .int .i64] list⟩, ⟨3, 5, false, .row 80 [.int .i64, .int .i64, .int .i64] omissions⟩, ⟨4, 5, false, .row 52 [.int .i64, .int .i64] proof⟩], 5⟩) = some ⟨some (xcc office_Owner t delay office_Lines ships list omissions proof), [], 0, [], .tup [.bool (xcV office_Owner t delay office_Lines ships list omissions proof), .int .i64 (xds office_Owner t delay office_Lines ships list omissions proof)]⟩ := by kernel_rfl
noncomputable def xhU : List U → Option Eff
 | [.i office_Owner, .i t, .i delay, .r office_Lines, .r ships, .r list, .r omissions, .r proof] => some ⟨some (xcc office_Owner t delay office_Lines ships list omissions proof), [], 0, [], .tup [.bool (xcV office_Owner t delay office_Lines ships list omissions proof), .int .i64 (xds office_Owner t delay office_Lines ships list omissions proof)]⟩
 | _ => Option.none
noncomputable def K34 : Con := ext Tryz.prog K33 28 [.agg [.int .i64 0, .sl 0], .sl 1, .sl 2, .int .i64 0, .int .i64 0, .sl 3, .sl 4] [⟨0, 0, false, .row 29 [.int .i64, .int .i64, .int .i64, .int .u64] []⟩, ⟨1, 0, false, .nst 24 [.c (.int .i64), .s 29 [.int .i64, .int .i64, .int .i64, .int .u64]] []⟩, ⟨2, 0, false, .row 41 [.int .i64, .int .i64, .int .i64] []⟩, ⟨3, 0, false, .row 80 [.int .i64, .int .i64, .int .i64] []⟩, ⟨4, 0, false, .row 52 [.int .i64, .int .i64] []⟩] xhU
theorem xCK : xbc Tryz.prog K34 := xaw xaC xCL (n := 9) rfl rfl fun us x h => by
 unfold xhU at h
 split at h
 ·cases h; exact ⟨some (xcc _ _ _ _ _ _ _ _), xmY _ _ _ _ _ _ _ _, fun h => h⟩
 ·cases h
end Go.Proofs.YtikhnofbbcmpeaaGreat
set_option maxRecDepth 100000
set_option linter.unusedVariables false
namespace Go.Proofs.YtikhnofbbcmpeaaGreat
open Go Go.Sy
noncomputable def xfN (a b : List (List Int)) : List U :=
 [.b (false), .i ((0 : Int))]
noncomputable def xdu (a b : List (List Int)) (y0 : List U) : Option (Nat × List U) :=
 (bif decide (gi y0 1 < (↑a.length : Int)) then xab (inR (gi y0 1) a) (xab (inR (gi y0 1) a) (xab (inR (gi y0 1) b) (xab (inR (gi y0 1) b) ((bif (a.getD (gi y0 1).toNat []).getD 0 (0 : Int) != (b.getD (gi y0 1).toNat []).getD 0 (0 : Int) then some (1, []) else some (0, [.b (gb y0 0), .i (IntKind.i64.wrap (gi y0 1 + (1 : Int)))])))))) else some (3, [.b (gb y0 0), .i (gi y0 1)]))
noncomputable def xsk (a b : List (List Int)) : Nat × List U := xan (xdu a b) (xfN a b)
noncomputable def xdV (a b : List (List Int)) : Bool :=
 bif (↑a.length : Int) != (↑b.length : Int) then false else bif (xsk a b).fst.beq 1 then false else true
def xdC (a b : List (List Int)) : Prop :=
 ((((↑a.length : Int) != (↑b.length : Int)) = false) → ((xaz (xdu a b) (xfN a b))))
noncomputable def xem (a b : List (List Int)) : List U :=
 [.b (false), .i ((0 : Int))]
noncomputable def xcl (a b : List (List Int)) (y0 : List U) : Option (Nat × List U) :=
 (bif decide (gi y0 1 < (↑a.length : Int)) then xab (inR (gi y0 1) a) (xab (inR (gi y0 1) a) (xab (inR (gi y0 1) b) (xab (inR (gi y0 1) b) ((bif !((a.getD (gi y0 1).toNat []).getD 0 (0 : Int) == (b.getD (gi y0 1).toNat []).getD 0 (0 : Int) &&
  ((a.getD (gi y0 1).toNat []).getD 1 (0 : Int) == (b.getD (gi y0 1).toNat []).getD 1 (0 : Int) && true)) then some (1, []) else some (0, [.b (gb y0 0), .i (IntKind.i64.wrap (gi y0 1 + (1 : Int)))])))))) else some (3, [.b (gb y0 0), .i (gi y0 1)]))
noncomputable def xnx (a b : List (List Int)) : Nat × List U := xan (xcl a b) (xem a b)
noncomputable def xbM (a b : List (List Int)) : Bool :=
 bif (↑a.length : Int) != (↑b.length : Int) then false else bif (xnx a b).fst.beq 1 then false else true
def xb1 (a b : List (List Int)) : Prop :=
 ((((↑a.length : Int) != (↑b.length : Int)) = false) → ((xaz (xcl a b) (xem a b))))
noncomputable def xdi (a b : List (List Int)) : List U :=
 [.b (false), .i ((0 : Int))]
noncomputable def xbw (a b : List (List Int)) (y0 : List U) : Option (Nat × List U) :=
 (bif decide (gi y0 1 < (↑a.length : Int)) then xab (inR (gi y0 1) a) (xab (inR (gi y0 1) a) (xab (inR (gi y0 1) b) (xab (inR (gi y0 1) b) ((bif !((a.getD (gi y0 1).toNat []).getD 0 (0 : Int) == (b.getD (gi y0 1).toNat []).getD 0 (0 : Int) &&
  ((a.getD (gi y0 1).toNat []).getD 1 (0 : Int) == (b.getD (gi y0 1).toNat []).getD 1 (0 : Int) &&
   ((a.getD (gi y0 1).toNat []).getD 2 (0 : Int) == (b.getD (gi y0 1).toNat []).getD 2 (0 : Int) && true))) then some (1, []) else some (0, [.b (gb y0 0), .i (IntKind.i64.wrap (gi y0 1 + (1 : Int)))])))))) else some (3, [.b (gb y0 0), .i (gi y0 1)]))
noncomputable def xj5 (a b : List (List Int)) : Nat × List U := xan (xbw a b) (xdi a b)
noncomputable def xbQ (a b : List (List Int)) : Bool :=
 bif (↑a.length : Int) != (↑b.length : Int) then false else bif (xj5 a b).fst.beq 1 then false else true
def xbA (a b : List (List Int)) : Prop :=
 ((((↑a.length : Int) != (↑b.length : Int)) = false) → ((xaz (xbw a b) (xdi a b))))
noncomputable def xoB (owner : Int) (lines : List (List Int)) (y0 : List U) : Int :=
 xfY (gi y0 1) ((lines.getD (gi y0 0).toNat []).getD 0 (0 : Int)) ((lines.getD (gi y0 0).toNat []).getD 1 (0 : Int))
 ((lines.getD (gi y0 0).toNat []).getD 2 (0 : Int)) (gr y0 2)
noncomputable def xoA (owner : Int) (lines : List (List Int)) (y0 : List U) : Int :=
 xfZ (gi y0 1) ((lines.getD (gi y0 0).toNat []).getD 0 (0 : Int)) ((lines.getD (gi y0 0).toNat []).getD 1 (0 : Int))
 ((lines.getD (gi y0 0).toNat []).getD 2 (0 : Int)) (gr y0 2)
noncomputable def xoz (owner : Int) (lines : List (List Int)) (y0 : List U) : List (List Int) :=
 xf0 (gi y0 1) ((lines.getD (gi y0 0).toNat []).getD 0 (0 : Int)) ((lines.getD (gi y0 0).toNat []).getD 1 (0 : Int))
 ((lines.getD (gi y0 0).toNat []).getD 2 (0 : Int)) (gr y0 2)
noncomputable def xiG (owner : Int) (lines : List (List Int)) : List U :=
 [.i ((0 : Int)), .i (owner), .r ([])]
noncomputable def xdd (owner : Int) (lines : List (List Int)) (y0 : List U) : Option (Nat × List U) :=
 (bif decide (gi y0 0 < (↑lines.length : Int)) then xab (inR (gi y0 0) lines) (xab (inR (gi y0 0) lines) (xab (inR (gi y0 0) lines) (xab (inR (gi y0 0) lines) (xab (inR (gi y0 0) lines) (xab (inR (gi y0 0) lines) (xab (inR (gi y0 0) lines) (xab (inR (gi y0 0) lines) (xab (inR (gi y0 0) lines) (xab (xeT (gi y0 1) ((lines.getD (gi y0 0).toNat []).getD 0 (0 : Int)) ((lines.getD (gi y0 0).toNat []).getD 1 (0 : Int))
 ((lines.getD (gi y0 0).toNat []).getD 2 (0 : Int)) (gr y0 2)) ((bif (xoB owner lines y0) != (0 : Int) then some (1, [.i (gi y0 1), .r (gr y0 2)]) else some (0, [.i (IntKind.i64.wrap (gi y0 0 + (1 : Int))), .i ((xoA owner lines y0)), .r ((xoz owner lines y0))])))))))))))) else some (3, [.i (gi y0 0), .i (gi y0 1), .r (gr y0 2)]))
noncomputable def xgH (owner : Int) (lines : List (List Int)) : Nat × List U := xan (xdd owner lines) (xiG owner lines)
noncomputable def xad (owner : Int) (lines : List (List Int)) : List (List Int) :=
 bif (xgH owner lines).fst.beq 1 then [] else gr (xgH owner lines).snd 2
noncomputable def xac (owner : Int) (lines : List (List Int)) : Int :=
 bif (xgH owner lines).fst.beq 1 then (0 : Int) else gi (xgH owner lines).snd 1
def xbN (owner : Int) (lines : List (List Int)) : Prop :=
 ((xaz (xdd owner lines) (xiG owner lines)))
noncomputable def xag  : List (List Int) :=
 [[(5 : Int), (4 : Int), (0 : Int)], [(20 : Int), (5 : Int), (0 : Int)], [(40 : Int), (2 : Int), (9 : Int)]]
noncomputable def xaD  : List Int :=
 [xac (1 : Int) [[(12 : Int), (3 : Int), (7 : Int)]], encL (xad (1 : Int) [[(12 : Int), (3 : Int), (7 : Int)]])]
noncomputable def xaK  : List Int :=
 [(xaD), [xac (2 : Int) [], encL (xad (2 : Int) [])], [xac (3 : Int) ((xag)), encL (xad (3 : Int) ((xag)))]].getD
 (Int.toNat (0 : Int)) []
noncomputable def xa1  : List (List Int) :=
 [[(3 : Int), (7 : Int), (10 : Int)], [(2 : Int), (9 : Int), (30 : Int)], [(3 : Int), (9 : Int), (30 : Int)]]
noncomputable def xbp  : List Int :=
 [(xaD), [xac (2 : Int) [], encL (xad (2 : Int) [])], [xac (3 : Int) ((xag)), encL (xad (3 : Int) ((xag)))]].getD
 (Int.toNat (2 : Int)) []
noncomputable def xc3  : List (List Int) :=
 xam (xac (0 : Int) [[(10 : Int), (1 : Int), (7 : Int)]]) (50 : Int) (5 : Int) (xad (0 : Int) [[(10 : Int), (1 : Int), (7 : Int)]])
 [(xaD), [xac (2 : Int) [], encL (xad (2 : Int) [])], [xac (3 : Int) ((xag)), encL (xad (3 : Int) ((xag)))]]
 ([(1 : Int), (7 : Int), (10 : Int)] :: [(2 : Int), (7 : Int), (10 : Int)] :: (xa1))
noncomputable def xcA  : List (List Int) :=
 xdg (xac (0 : Int) [[(10 : Int), (1 : Int), (7 : Int)]]) (50 : Int) (5 : Int) (xad (0 : Int) [[(10 : Int), (1 : Int), (7 : Int)]])
 [(xaD), [xac (2 : Int) [], encL (xad (2 : Int) [])], [xac (3 : Int) ((xag)), encL (xad (3 : Int) ((xag)))]]
 ([(1 : Int), (7 : Int), (10 : Int)] :: [(2 : Int), (7 : Int), (10 : Int)] :: (xa1))
noncomputable def xg4  : Int :=
 xcK (xac (0 : Int) [[(10 : Int), (1 : Int), (7 : Int)]]) (((xaK)).getD 0 (0 : Int)) (10 : Int) (xad (0 : Int) [[(10 : Int), (1 : Int), (7 : Int)]])
 (decL (((xaK)).getD 1 (0 : Int))) ([(1 : Int), (7 : Int), (10 : Int)] :: [(2 : Int), (7 : Int), (10 : Int)] :: (xa1))
noncomputable def xg3  : Int :=
 xcK (xac (0 : Int) [[(10 : Int), (1 : Int), (7 : Int)]]) (((xbp)).getD 0 (0 : Int)) (10 : Int) (xad (0 : Int) [[(10 : Int), (1 : Int), (7 : Int)]])
 (decL (((xbp)).getD 1 (0 : Int))) ([(1 : Int), (7 : Int), (10 : Int)] :: [(2 : Int), (7 : Int), (10 : Int)] :: (xa1))
noncomputable def xg2  : Int :=
 xei (xac (0 : Int) [[(10 : Int), (1 : Int), (7 : Int)]]) (50 : Int) (5 : Int) (xad (0 : Int) [[(10 : Int), (1 : Int), (7 : Int)]])
 [(xaD), [xac (2 : Int) [], encL (xad (2 : Int) [])], [xac (3 : Int) ((xag)), encL (xad (3 : Int) ((xag)))]]
 ([(1 : Int), (7 : Int), (10 : Int)] :: [(2 : Int), (7 : Int), (10 : Int)] :: (xa1))
noncomputable def xgz  : Int :=
 xbB (xac (0 : Int) [[(10 : Int), (1 : Int), (7 : Int)]]) (50 : Int) (5 : Int) (xad (0 : Int) [[(10 : Int), (1 : Int), (7 : Int)]])
 [(xaD), [xac (2 : Int) [], encL (xad (2 : Int) [])], [xac (3 : Int) ((xag)), encL (xad (3 : Int) ((xag)))]]
 ([(1 : Int), (7 : Int), (10 : Int)] :: [(2 : Int), (7 : Int), (10 : Int)] :: (xa1))
noncomputable def xgy  : Int :=
 xds (xac (0 : Int) [[(10 : Int), (1 : Int), (7 : Int)]]) (50 : Int) (5 : Int) (xad (0 : Int) [[(10 : Int), (1 : Int), (7 : Int)]])
 [(xaD), [xac (2 : Int) [], encL (xad (2 : Int) [])], [xac (3 : Int) ((xag)), encL (xad (3 : Int) ((xag)))]]
 ([(1 : Int), (7 : Int), (10 : Int)] :: [(2 : Int), (7 : Int), (10 : Int)] :: (xa1)) ((xc3)) ((xcA))
noncomputable def xfi  : List (List Int) :=
 xcL (xac (0 : Int) [[(10 : Int), (1 : Int), (7 : Int)]]) (((xaK)).getD 0 (0 : Int)) (10 : Int) (xad (0 : Int) [[(10 : Int), (1 : Int), (7 : Int)]])
 (decL (((xaK)).getD 1 (0 : Int))) ([(1 : Int), (7 : Int), (10 : Int)] :: [(2 : Int), (7 : Int), (10 : Int)] :: (xa1))
noncomputable def xgx  : List (List Int) :=
 xcL (xac (0 : Int) [[(10 : Int), (1 : Int), (7 : Int)]]) (((xbp)).getD 0 (0 : Int)) (10 : Int) (xad (0 : Int) [[(10 : Int), (1 : Int), (7 : Int)]])
 (decL (((xbp)).getD 1 (0 : Int))) ([(1 : Int), (7 : Int), (10 : Int)] :: [(2 : Int), (7 : Int), (10 : Int)] :: (xa1))
noncomputable def xfh  : List (List Int) :=
 xej (xac (0 : Int) [[(10 : Int), (1 : Int), (7 : Int)]]) (50 : Int) (5 : Int) (xad (0 : Int) [[(10 : Int), (1 : Int), (7 : Int)]])
 [(xaD), [xac (2 : Int) [], encL (xad (2 : Int) [])], [xac (3 : Int) ((xag)), encL (xad (3 : Int) ((xag)))]]
 ([(1 : Int), (7 : Int), (10 : Int)] :: [(2 : Int), (7 : Int), (10 : Int)] :: (xa1))
noncomputable def xic  : List (List Int) :=
 [[(2 : Int), (7 : Int)], [(2 : Int), (9 : Int)], [(3 : Int), (7 : Int)], [(3 : Int), (9 : Int)]]
noncomputable def xib  : List (List Int) :=
 [[(1 : Int), (0 : Int), (9 : Int)], [(2 : Int), (2 : Int), (0 : Int)], [(2 : Int), (3 : Int), (0 : Int)]]
noncomputable def xdX  : Bool :=
 bif
  ((xg4) == (0 : Int) && (xg3) == (0 : Int) && (xg2) == (0 : Int) && (xgz) == (0 : Int) && (xgy) == (0 : Int) &&
     xdj (((xaK)).getD 0 (0 : Int)) (12 : Int) (decL (((xaK)).getD 1 (0 : Int))) == (0 : Int) &&
    xcV (xac (0 : Int) [[(10 : Int), (1 : Int), (7 : Int)]]) (50 : Int) (5 : Int) (xad (0 : Int) [[(10 : Int), (1 : Int), (7 : Int)]])
     [(xaD), [xac (2 : Int) [], encL (xad (2 : Int) [])], [xac (3 : Int) ((xag)), encL (xad (3 : Int) ((xag)))]]
     ([(1 : Int), (7 : Int), (10 : Int)] :: [(2 : Int), (7 : Int), (10 : Int)] :: (xa1)) ((xc3)) ((xcA))) ==
   true then
 bif (xdV ((xfi)) [[(7 : Int)]] && (↑((xgx)).length : Int) == (0 : Int)) == true then
  bif xdV (xcI (((xaK)).getD 0 (0 : Int)) (12 : Int) (decL (((xaK)).getD 1 (0 : Int)))) [[(7 : Int)]] == true then
   bif xbM ((xfh)) ((xic)) == true then
    bif xbQ ((xc3)) ((xib)) == true then
     bif xbM ((xcA)) [[(2 : Int), (7 : Int)], [(3 : Int), (7 : Int)], [(3 : Int), (9 : Int)]] == true then
      xae (((xbp)).getD 0 (0 : Int)) (decL (((xbp)).getD 1 (0 : Int)))
     else false
    else false
   else false
  else false
 else false
else false
def xeg  : Prop :=
 (((xbN (1 : Int) [[(12 : Int), (3 : Int), (7 : Int)]]) ∧ ((xbN (2 : Int) []) ∧ ((xbN (3 : Int) ((xag))) ∧ (xbN (0 : Int) [[(10 : Int), (1 : Int), (7 : Int)]])))) ∧ ((inR (0 : Int) [(xaD), [xac (2 : Int) [], encL (xad (2 : Int) [])], [xac (3 : Int) ((xag)), encL (xad (3 : Int) ((xag)))]]) ∧ ((inR (0 : Int) [(xaD), [xac (2 : Int) [], encL (xad (2 : Int) [])], [xac (3 : Int) ((xag)), encL (xad (3 : Int) ((xag)))]]) ∧ ((xbC (xac (0 : Int) [[(10 : Int), (1 : Int), (7 : Int)]]) (((xaK)).getD 0 (0 : Int)) (10 : Int) (xad (0 : Int) [[(10 : Int), (1 : Int), (7 : Int)]])
 (decL (((xaK)).getD 1 (0 : Int))) ([(1 : Int), (7 : Int), (10 : Int)] :: [(2 : Int), (7 : Int), (10 : Int)] :: (xa1))) ∧ ((inR (2 : Int) [(xaD), [xac (2 : Int) [], encL (xad (2 : Int) [])], [xac (3 : Int) ((xag)), encL (xad (3 : Int) ((xag)))]]) ∧ ((inR (2 : Int) [(xaD), [xac (2 : Int) [], encL (xad (2 : Int) [])], [xac (3 : Int) ((xag)), encL (xad (3 : Int) ((xag)))]]) ∧ ((xbC (xac (0 : Int) [[(10 : Int), (1 : Int), (7 : Int)]]) (((xbp)).getD 0 (0 : Int)) (10 : Int) (xad (0 : Int) [[(10 : Int), (1 : Int), (7 : Int)]])
 (decL (((xbp)).getD 1 (0 : Int))) ([(1 : Int), (7 : Int), (10 : Int)] :: [(2 : Int), (7 : Int), (10 : Int)] :: (xa1))) ∧ ((xcW (xac (0 : Int) [[(10 : Int), (1 : Int), (7 : Int)]]) (50 : Int) (5 : Int) (xad (0 : Int) [[(10 : Int), (1 : Int), (7 : Int)]])
 [(xaD), [xac (2 : Int) [], encL (xad (2 : Int) [])], [xac (3 : Int) ((xag)), encL (xad (3 : Int) ((xag)))]]
 ([(1 : Int), (7 : Int), (10 : Int)] :: [(2 : Int), (7 : Int), (10 : Int)] :: (xa1))) ∧ ((xby (xac (0 : Int) [[(10 : Int), (1 : Int), (7 : Int)]]) (50 : Int) (5 : Int) (xad (0 : Int) [[(10 : Int), (1 : Int), (7 : Int)]])
 [(xaD), [xac (2 : Int) [], encL (xad (2 : Int) [])], [xac (3 : Int) ((xag)), encL (xad (3 : Int) ((xag)))]]
 ([(1 : Int), (7 : Int), (10 : Int)] :: [(2 : Int), (7 : Int), (10 : Int)] :: (xa1))) ∧ ((xcc (xac (0 : Int) [[(10 : Int), (1 : Int), (7 : Int)]]) (50 : Int) (5 : Int) (xad (0 : Int) [[(10 : Int), (1 : Int), (7 : Int)]])
 [(xaD), [xac (2 : Int) [], encL (xad (2 : Int) [])], [xac (3 : Int) ((xag)), encL (xad (3 : Int) ((xag)))]]
 ([(1 : Int), (7 : Int), (10 : Int)] :: [(2 : Int), (7 : Int), (10 : Int)] :: (xa1)) ((xc3)) ((xcA))) ∧ ((inR (0 : Int) [(xaD), [xac (2 : Int) [], encL (xad (2 : Int) [])], [xac (3 : Int) ((xag)), encL (xad (3 : Int) ((xag)))]]) ∧ ((inR (0 : Int) [(xaD), [xac (2 : Int) [], encL (xad (2 : Int) [])], [xac (3 : Int) ((xag)), encL (xad (3 : Int) ((xag)))]]) ∧ ((xcy (((xaK)).getD 0 (0 : Int)) (12 : Int) (decL (((xaK)).getD 1 (0 : Int)))) ∧ (((((xg4) == (0 : Int) && (xg3) == (0 : Int) && (xg2) == (0 : Int) && (xgz) == (0 : Int) && (xgy) == (0 : Int) &&
    xdj (((xaK)).getD 0 (0 : Int)) (12 : Int) (decL (((xaK)).getD 1 (0 : Int))) == (0 : Int) &&
   xcV (xac (0 : Int) [[(10 : Int), (1 : Int), (7 : Int)]]) (50 : Int) (5 : Int) (xad (0 : Int) [[(10 : Int), (1 : Int), (7 : Int)]])
    [(xaD), [xac (2 : Int) [], encL (xad (2 : Int) [])], [xac (3 : Int) ((xag)), encL (xad (3 : Int) ((xag)))]]
    ([(1 : Int), (7 : Int), (10 : Int)] :: [(2 : Int), (7 : Int), (10 : Int)] :: (xa1)) ((xc3)) ((xcA))) ==
  true) =
 true) → ((xdC ((xfi)) [[(7 : Int)]]) ∧ ((((xdV ((xfi)) [[(7 : Int)]] && (↑((xgx)).length : Int) == (0 : Int)) == true) = true) → ((xdC (xcI (((xaK)).getD 0 (0 : Int)) (12 : Int) (decL (((xaK)).getD 1 (0 : Int)))) [[(7 : Int)]]) ∧ (((xdV (xcI (((xaK)).getD 0 (0 : Int)) (12 : Int) (decL (((xaK)).getD 1 (0 : Int)))) [[(7 : Int)]] == true) = true) → ((xb1 ((xfh)) ((xic))) ∧ (((xbM ((xfh)) ((xic)) == true) = true) → ((xbA ((xc3)) ((xib))) ∧ (((xbQ ((xc3)) ((xib)) == true) = true) → ((xb1 ((xcA)) [[(2 : Int), (7 : Int)], [(3 : Int), (7 : Int)], [(3 : Int), (9 : Int)]]) ∧ (((xbM ((xcA)) [[(2 : Int), (7 : Int)], [(3 : Int), (7 : Int)], [(3 : Int), (9 : Int)]] = true) → (inR (2 : Int) [(xaD), [xac (2 : Int) [], encL (xad (2 : Int) [])], [xac (3 : Int) ((xag)), encL (xad (3 : Int) ((xag)))]])) ∧ (((xbM ((xcA)) [[(2 : Int), (7 : Int)], [(3 : Int), (7 : Int)], [(3 : Int), (9 : Int)]] == true) = true) → ((inR (2 : Int) [(xaD), [xac (2 : Int) [], encL (xad (2 : Int) [])], [xac (3 : Int) ((xag)), encL (xad (3 : Int) ((xag)))]]) ∧ (xaF (((xbp)).getD 0 (0 : Int)) (decL (((xbp)).getD 1 (0 : Int))))))))))))))))))))))))))))))
end Go.Proofs.YtikhnofbbcmpeaaGreat
set_option maxRecDepth 100000
set_option linter.unusedVariables false
namespace Go.Proofs.YtikhnofbbcmpeaaGreat
open Go Go.Sy
theorem xqZ (a b : List (List Int)) : xau Tryz.prog 2 (xa2 Tryz.prog K34 xcU 9 37 [.sl 0, .sl 1] ⟨[⟨0, 2, false, .row 3 [.int .i64] a⟩, ⟨1, 2, false, .row 3 [.int .i64] b⟩], 2⟩) = some ⟨some (xdC a b), [], 0, [], .bool (xdV a b)⟩ := by kernel_rfl
noncomputable def xlj : List U → Option Eff
 | [.r a, .r b] => some ⟨some (xdC a b), [], 0, [], .bool (xdV a b)⟩
 | _ => Option.none
noncomputable def K35 : Con := ext Tryz.prog K34 37 [.sl 0, .sl 1] [⟨0, 0, false, .row 3 [.int .i64] []⟩, ⟨1, 0, false, .row 3 [.int .i64] []⟩] xlj
theorem xCJ : xbc Tryz.prog K35 := xaw xaC xCK (n := 9) rfl rfl fun us x h => by
 unfold xlj at h
 split at h
 ·cases h; exact ⟨some (xdC _ _), xqZ _ _, fun h => h⟩
 ·cases h
theorem xms (a b : List (List Int)) : xau Tryz.prog 2 (xa2 Tryz.prog K35 xcU 9 30 [.sl 0, .sl 1] ⟨[⟨0, 2, false, .row 52 [.int .i64, .int .i64] a⟩, ⟨1, 2, false, .row 52 [.int .i64, .int .i64] b⟩], 2⟩) = some ⟨some (xb1 a b), [], 0, [], .bool (xbM a b)⟩ := by kernel_rfl
noncomputable def xhP : List U → Option Eff
 | [.r a, .r b] => some ⟨some (xb1 a b), [], 0, [], .bool (xbM a b)⟩
 | _ => Option.none
noncomputable def K36 : Con := ext Tryz.prog K35 30 [.sl 0, .sl 1] [⟨0, 0, false, .row 52 [.int .i64, .int .i64] []⟩, ⟨1, 0, false, .row 52 [.int .i64, .int .i64] []⟩] xhP
theorem xCI : xbc Tryz.prog K36 := xaw xaC xCJ (n := 9) rfl rfl fun us x h => by
 unfold xhP at h
 split at h
 ·cases h; exact ⟨some (xb1 _ _), xms _ _, fun h => h⟩
 ·cases h
theorem xjh (a b : List (List Int)) : xau Tryz.prog 2 (xa2 Tryz.prog K36 xcU 9 41 [.sl 0, .sl 1] ⟨[⟨0, 2, false, .row 80 [.int .i64, .int .i64, .int .i64] a⟩, ⟨1, 2, false, .row 80 [.int .i64, .int .i64, .int .i64] b⟩], 2⟩) = some ⟨some (xbA a b), [], 0, [], .bool (xbQ a b)⟩ := by kernel_rfl
noncomputable def xfK : List U → Option Eff
 | [.r a, .r b] => some ⟨some (xbA a b), [], 0, [], .bool (xbQ a b)⟩
 | _ => Option.none
noncomputable def K37 : Con := ext Tryz.prog K36 41 [.sl 0, .sl 1] [⟨0, 0, false, .row 80 [.int .i64, .int .i64, .int .i64] []⟩, ⟨1, 0, false, .row 80 [.int .i64, .int .i64, .int .i64] []⟩] xfK
theorem xCH : xbc Tryz.prog K37 := xaw xaC xCI (n := 9) rfl rfl fun us x h => by
 unfold xfK at h
 split at h
 ·cases h; exact ⟨some (xbA _ _), xjh _ _, fun h => h⟩
 ·cases h
theorem xsz (owner : Int) (lines : List (List Int)) : xau Tryz.prog 1 (xa2 Tryz.prog K37 xcU 9 86 [.int .i64 owner, .sl 0] ⟨[⟨0, 1, false, .row 127 [.int .i64, .int .i64, .int .i64] lines⟩], 1⟩) = some ⟨some (xbN owner lines), [], 1, [⟨1, 1, true, .row 29 [.int .i64, .int .i64, .int .i64, .int .u64] (xad owner lines)⟩], .agg [.int .i64 (xac owner lines), .sl 1]⟩ := by kernel_rfl
noncomputable def xmO : List U → Option Eff
 | [.i owner, .r lines] => some ⟨some (xbN owner lines), [], 1, [⟨1, 1, true, .row 29 [.int .i64, .int .i64, .int .i64, .int .u64] (xad owner lines)⟩], .agg [.int .i64 (xac owner lines), .sl 1]⟩
 | _ => Option.none
noncomputable def K38 : Con := ext Tryz.prog K37 86 [.int .i64 0, .sl 0] [⟨0, 0, false, .row 127 [.int .i64, .int .i64, .int .i64] []⟩] xmO
theorem xCG : xbc Tryz.prog K38 := xaw xaC xCH (n := 9) rfl rfl fun us x h => by
 unfold xmO at h
 split at h
 ·cases h; exact ⟨some (xbN _ _), xsz _ _, fun h => h⟩
 ·cases h
theorem xq2  : xau Tryz.prog 0 (xa2 Tryz.prog K38 xcU 9 12 [] ⟨[], 0⟩) = some ⟨some (xeg), [], 0, [], .bool (xdX)⟩ := by kernel_rfl
noncomputable def xll : List U → Option Eff
 | [] => some ⟨some (xeg), [], 0, [], .bool (xdX)⟩
 | _ => Option.none
noncomputable def K39 : Con := ext Tryz.prog K38 12 [] [] xll
theorem xCF : xbc Tryz.prog K39 := xaw xaC xCG (n := 9) rfl rfl fun us x h => by
 unfold xll at h
 split at h
 ·cases h; exact ⟨some (xeg), xq2, fun h => h⟩
 ·cases h
end Go.Proofs.YtikhnofbbcmpeaaGreat
set_option maxRecDepth 100000
set_option linter.unusedVariables false
namespace Go.Proofs.YtikhnofbbcmpeaaGreat
open Go Go.Sy
noncomputable def xiy (l_Owner time : Int) (l_Lines : List (List Int)) : List U :=
 [.b (false), .i ((0 : Int))]
noncomputable def xc7 (l_Owner time : Int) (l_Lines : List (List Int)) (y0 : List U) : Option (Nat × List U) :=
 (bif decide (gi y0 1 < (↑l_Lines.length : Int)) then xab (inR (gi y0 1) l_Lines) (xab (inR (gi y0 1) l_Lines) (xab (inR (gi y0 1) l_Lines) (xab ((decide ((l_Lines.getD (gi y0 1).toNat []).getD 0 (0 : Int) ≤ time) = true) → (inR (gi y0 1) l_Lines)) (xab ((decide ((l_Lines.getD (gi y0 1).toNat []).getD 0 (0 : Int) ≤ time) = true) → (inR (gi y0 1) l_Lines)) (xab ((decide ((l_Lines.getD (gi y0 1).toNat []).getD 0 (0 : Int) ≤ time) = true) → (inR (gi y0 1) l_Lines)) (xab ((decide ((l_Lines.getD (gi y0 1).toNat []).getD 0 (0 : Int) ≤ time) = true) → ((((l_Lines.getD (gi y0 1).toNat []).getD 1 (0 : Int) == (4 : Int)) = false) → (inR (gi y0 1) l_Lines))) (xab ((decide ((l_Lines.getD (gi y0 1).toNat []).getD 0 (0 : Int) ≤ time) = true) → ((((l_Lines.getD (gi y0 1).toNat []).getD 1 (0 : Int) == (4 : Int)) = false) → (inR (gi y0 1) l_Lines))) (xab ((decide ((l_Lines.getD (gi y0 1).toNat []).getD 0 (0 : Int) ≤ time) = true) → ((((l_Lines.getD (gi y0 1).toNat []).getD 1 (0 : Int) == (4 : Int)) = false) → (inR (gi y0 1) l_Lines))) ((bif decide ((l_Lines.getD (gi y0 1).toNat []).getD 0 (0 : Int) ≤ time) &&
 ((l_Lines.getD (gi y0 1).toNat []).getD 1 (0 : Int) == (4 : Int) || (l_Lines.getD (gi y0 1).toNat []).getD 1 (0 : Int) == (5 : Int)) then xab (inR (gi y0 1) l_Lines) (xab (inR (gi y0 1) l_Lines) (xab (inR (gi y0 1) l_Lines) (some (0, [.b ((l_Lines.getD (gi y0 1).toNat []).getD 1 (0 : Int) == (4 : Int)), .i (IntKind.i64.wrap (gi y0 1 + (1 : Int)))])))) else some (0, [.b (gb y0 0), .i (IntKind.i64.wrap (gi y0 1 + (1 : Int)))]))))))))))) else some (3, [.b (gb y0 0), .i (gi y0 1)]))
noncomputable def xtn (l_Owner time : Int) (l_Lines : List (List Int)) : Nat × List U := xan (xc7 l_Owner time l_Lines) (xiy l_Owner time l_Lines)
noncomputable def xdZ (l_Owner time : Int) (l_Lines : List (List Int)) : Bool :=
 gb (xtn l_Owner time l_Lines).snd 0
def xfL (l_Owner time : Int) (l_Lines : List (List Int)) : Prop :=
 ((xaz (xc7 l_Owner time l_Lines) (xiy l_Owner time l_Lines)))
noncomputable def xiz (l_Owner kind item from_ until_ : Int) (l_Lines : List (List Int)) : List U :=
 [.b (false), .i ((0 : Int))]
noncomputable def xdM (l_Owner kind item from_ until_ : Int) (l_Lines : List (List Int)) (y0 : List U) : Option (Nat × List U) :=
 (bif decide (gi y0 1 < (↑l_Lines.length : Int)) then xab (inR (gi y0 1) l_Lines) (xab (inR (gi y0 1) l_Lines) ((bif (l_Lines.getD (gi y0 1).toNat []).getD 1 (0 : Int) == kind && (l_Lines.getD (gi y0 1).toNat []).getD 2 (0 : Int) == item &&
  decide (from_ ≤ (l_Lines.getD (gi y0 1).toNat []).getD 0 (0 : Int)) &&
 decide ((l_Lines.getD (gi y0 1).toNat []).getD 0 (0 : Int) ≤ until_) then some (1, []) else some (0, [.b (gb y0 0), .i (IntKind.i64.wrap (gi y0 1 + (1 : Int)))])))) else some (3, [.b (gb y0 0), .i (gi y0 1)]))
noncomputable def xto (l_Owner kind item from_ until_ : Int) (l_Lines : List (List Int)) : Nat × List U := xan (xdM l_Owner kind item from_ until_ l_Lines) (xiz l_Owner kind item from_ until_ l_Lines)
noncomputable def xeH (l_Owner kind item from_ until_ : Int) (l_Lines : List (List Int)) : Bool :=
 bif (xto l_Owner kind item from_ until_ l_Lines).fst.beq 1 then true else false
def xeX (l_Owner kind item from_ until_ : Int) (l_Lines : List (List Int)) : Prop :=
 ((xaz (xdM l_Owner kind item from_ until_ l_Lines) (xiz l_Owner kind item from_ until_ l_Lines)))
noncomputable def xiI (n : Int) (list : List (List Int)) : List U :=
 [.b (false), .i ((0 : Int))]
noncomputable def xiH (n : Int) (list : List (List Int)) (y0 : List U) : Option (Nat × List U) :=
 (bif decide (gi y0 1 < (↑list.length : Int)) then xab (inR (gi y0 1) list) (xab (inR (gi y0 1) list) ((bif (list.getD (gi y0 1).toNat []).getD 0 (0 : Int) == n then some (1, []) else some (0, [.b (gb y0 0), .i (IntKind.i64.wrap (gi y0 1 + (1 : Int)))])))) else some (3, [.b (gb y0 0), .i (gi y0 1)]))
noncomputable def xtQ (n : Int) (list : List (List Int)) : Nat × List U := xan (xiH n list) (xiI n list)
noncomputable def xp9 (n : Int) (list : List (List Int)) : Bool :=
 bif (xtQ n list).fst.beq 1 then true else false
def xjm (n : Int) (list : List (List Int)) : Prop :=
 ((xaz (xiH n list) (xiI n list)))
end Go.Proofs.YtikhnofbbcmpeaaGreat
set_option maxRecDepth 100000
set_option linter.unusedVariables false
namespace Go.Proofs.YtikhnofbbcmpeaaGreat
open Go Go.Sy
theorem xsf (l_Owner time : Int) (l_Lines : List (List Int)) : xau Tryz.prog 1 (xa2 Tryz.prog K39 xcU 9 19 [.agg [.int .i64 l_Owner, .sl 0], .int .i64 time] ⟨[⟨0, 1, false, .row 29 [.int .i64, .int .i64, .int .i64, .int .u64] l_Lines⟩], 1⟩) = some ⟨some (xfL l_Owner time l_Lines), [], 0, [], .bool (xdZ l_Owner time l_Lines)⟩ := by kernel_rfl
noncomputable def xmt : List U → Option Eff
 | [.i l_Owner, .i time, .r l_Lines] => some ⟨some (xfL l_Owner time l_Lines), [], 0, [], .bool (xdZ l_Owner time l_Lines)⟩
 | _ => Option.none
noncomputable def K40 : Con := ext Tryz.prog K39 19 [.agg [.int .i64 0, .sl 0], .int .i64 0] [⟨0, 0, false, .row 29 [.int .i64, .int .i64, .int .i64, .int .u64] []⟩] xmt
theorem xCE : xbc Tryz.prog K40 := xaw xaC xCF (n := 9) rfl rfl fun us x h => by
 unfold xmt at h
 split at h
 ·cases h; exact ⟨some (xfL _ _ _), xsf _ _ _, fun h => h⟩
 ·cases h
theorem xsg (l_Owner kind item from_ until_ : Int) (l_Lines : List (List Int)) : xau Tryz.prog 1 (xa2 Tryz.prog K40 xcU 9 20 [.agg [.int .i64 l_Owner, .sl 0], .int .i64 kind, .int .i64 item, .int .i64 from_, .int .i64 until_] ⟨[⟨0, 1, false, .row 29 [.int .i64, .int .i64, .int .i64, .int .u64] l_Lines⟩], 1⟩) = some ⟨some (xeX l_Owner kind item from_ until_ l_Lines), [], 0, [], .bool (xeH l_Owner kind item from_ until_ l_Lines)⟩ := by kernel_rfl
noncomputable def xmu : List U → Option Eff
 | [.i l_Owner, .i kind, .i item, .i from_, .i until_, .r l_Lines] => some ⟨some (xeX l_Owner kind item from_ until_ l_Lines), [], 0, [], .bool (xeH l_Owner kind item from_ until_ l_Lines)⟩
 | _ => Option.none
noncomputable def K41 : Con := ext Tryz.prog K40 20 [.agg [.int .i64 0, .sl 0], .int .i64 0, .int .i64 0, .int .i64 0, .int .i64 0] [⟨0, 0, false, .row 29 [.int .i64, .int .i64, .int .i64, .int .u64] []⟩] xmu
theorem xCD : xbc Tryz.prog K41 := xaw xaC xCE (n := 9) rfl rfl fun us x h => by
 unfold xmu at h
 split at h
 ·cases h; exact ⟨some (xeX _ _ _ _ _ _), xsg _ _ _ _ _ _, fun h => h⟩
 ·cases h
theorem xsA (n : Int) (list : List (List Int)) : xau Tryz.prog 1 (xa2 Tryz.prog K41 xcU 9 18 [.sl 0, .int .i64 n] ⟨[⟨0, 1, false, .row 3 [.int .i64] list⟩], 1⟩) = some ⟨some (xjm n list), [], 0, [], .bool (xp9 n list)⟩ := by kernel_rfl
noncomputable def xmP : List U → Option Eff
 | [.i n, .r list] => some ⟨some (xjm n list), [], 0, [], .bool (xp9 n list)⟩
 | _ => Option.none
noncomputable def K42 : Con := ext Tryz.prog K41 18 [.sl 0, .int .i64 0] [⟨0, 0, false, .row 3 [.int .i64] []⟩] xmP
theorem xCC : xbc Tryz.prog K42 := xaw xaC xCD (n := 9) rfl rfl fun us x h => by
 unfold xmP at h
 split at h
 ·cases h; exact ⟨some (xjm _ _), xsA _ _, fun h => h⟩
 ·cases h
end Go.Proofs.YtikhnofbbcmpeaaGreat
set_option maxRecDepth 100000
set_option linter.unusedVariables false
namespace Go.Proofs.YtikhnofbbcmpeaaGreat
open Go Go.Sy
noncomputable def xgj (office_Owner : Int) (office_Lines ships chances : List (List Int)) : List U :=
 [.b (false), .i ((0 : Int))]
noncomputable def xda (office_Owner : Int) (office_Lines ships chances : List (List Int)) (y0 : List U) : Option (Nat × List U) :=
 (bif decide (gi y0 1 < (↑ships.length : Int)) then xab (inR (gi y0 1) ships) (xab (inR (gi y0 1) ships) (xab (inR (gi y0 1) ships) (xab ((decide ((↑(decL ((ships.getD (gi y0 1).toNat []).getD 1 (0 : Int))).length : Int) > (40 : Int)) = true) → (inR (gi y0 1) ships)) (xab ((decide ((↑(decL ((ships.getD (gi y0 1).toNat []).getD 1 (0 : Int))).length : Int) > (40 : Int)) = true) → (inR (gi y0 1) ships)) ((bif decide ((↑(decL ((ships.getD (gi y0 1).toNat []).getD 1 (0 : Int))).length : Int) > (40 : Int)) == true then xab (inR (gi y0 1) ships) ((bif decide ((↑(decL ((ships.getD (gi y0 1).toNat []).getD 1 (0 : Int))).length : Int) ≤ (200 : Int)) then some (1, []) else some (0, [.b (gb y0 0), .i (IntKind.i64.wrap (gi y0 1 + (1 : Int)))]))) else some (0, [.b (gb y0 0), .i (IntKind.i64.wrap (gi y0 1 + (1 : Int)))]))))))) else some (4, [.b (gb y0 0), .i (gi y0 1)]))
noncomputable def xtp (office_Owner : Int) (office_Lines ships chances : List (List Int)) : Nat × List U := xan (xda office_Owner office_Lines ships chances) (xgj office_Owner office_Lines ships chances)
noncomputable def xeI (office_Owner : Int) (office_Lines ships chances : List (List Int)) : Bool :=
 bif
  decide ((↑chances.length : Int) > (16 : Int)) && decide ((↑chances.length : Int) ≤ (200 : Int)) || decide ((↑ships.length : Int) > (20 : Int)) ||
   decide ((↑office_Lines.length : Int) > (40 : Int)) && decide ((↑office_Lines.length : Int) ≤ (200 : Int)) then
 false
else bif (xtp office_Owner office_Lines ships chances).fst.beq 1 then false else true
def xfM (office_Owner : Int) (office_Lines ships chances : List (List Int)) : Prop :=
 (((decide ((↑chances.length : Int) > (16 : Int)) && decide ((↑chances.length : Int) ≤ (200 : Int)) || decide ((↑ships.length : Int) > (20 : Int)) ||
  decide ((↑office_Lines.length : Int) > (40 : Int)) && decide ((↑office_Lines.length : Int) ≤ (200 : Int))) =
 false) → ((xaz (xda office_Owner office_Lines ships chances) (xgj office_Owner office_Lines ships chances))))
end Go.Proofs.YtikhnofbbcmpeaaGreat
set_option maxRecDepth 100000
set_option linter.unusedVariables false
namespace Go.Proofs.YtikhnofbbcmpeaaGreat
open Go Go.Sy
theorem xsh (office_Owner : Int) (office_Lines ships chances : List (List Int)) : xau Tryz.prog 3 (xa2 Tryz.prog K42 xcU 9 21 [.agg [.int .i64 office_Owner, .sl 0], .sl 1, .sl 2] ⟨[⟨0, 3, false, .row 29 [.int .i64, .int .i64, .int .i64, .int .u64] office_Lines⟩, ⟨1, 3, false, .nst 24 [.c (.int .i64), .s 29 [.int .i64, .int .i64, .int .i64, .int .u64]] ships⟩, ⟨2, 3, false, .row 41 [.int .i64, .int .i64, .int .i64] chances⟩], 3⟩) = some ⟨some (xfM office_Owner office_Lines ships chances), [], 0, [], .bool (xeI office_Owner office_Lines ships chances)⟩ := by kernel_rfl
noncomputable def xmv : List U → Option Eff
 | [.i office_Owner, .r office_Lines, .r ships, .r chances] => some ⟨some (xfM office_Owner office_Lines ships chances), [], 0, [], .bool (xeI office_Owner office_Lines ships chances)⟩
 | _ => Option.none
noncomputable def K43 : Con := ext Tryz.prog K42 21 [.agg [.int .i64 0, .sl 0], .sl 1, .sl 2] [⟨0, 0, false, .row 29 [.int .i64, .int .i64, .int .i64, .int .u64] []⟩, ⟨1, 0, false, .nst 24 [.c (.int .i64), .s 29 [.int .i64, .int .i64, .int .i64, .int .u64]] []⟩, ⟨2, 0, false, .row 41 [.int .i64, .int .i64, .int .i64] []⟩] xmv
theorem xoQ : xbc Tryz.prog K43 := xaw xaC xCC (n := 9) rfl rfl fun us x h => by
 unfold xmv at h
 split at h
 ·cases h; exact ⟨some (xfM _ _ _ _), xsh _ _ _ _, fun h => h⟩
 ·cases h
end Go.Proofs.YtikhnofbbcmpeaaGreat
set_option linter.unusedVariables false
namespace Go.Proofs.YtikhnofbbcmpeaaGreat
open Go Go.Sy
noncomputable def opc (n : Nat) : Code := (xgZ n ((Tryz.f23.body).getD .skip)).getD .skip
def xmF : List Sy.Obj := [⟨0, 0, false, .nst 24 xyi []⟩]
def xvQ : Sy.Obj := ⟨2, 0, true, .cells [.int .i64 0, .val (.slice none 0 0)]⟩
def oLs : List (Nat × AV) := [(0, .sl 0), (1, .int .i64 0), (4, .ptr 2 0), (5, .int .i64 0)]
def o0 : Sy.Spec := ⟨[(0, .sl 0), (1, .int .i64 0)], xmF, [], 1, []⟩
def oA : Sy.Spec := ⟨[(0, .sl 0), (1, .int .i64 0), (4, .ptr 2 0)], xmF ++ [xvQ], [], 3, []⟩
def oL : Sy.Spec := ⟨oLs, xmF ++ [xvQ], [], 3, []⟩
def oB : Sy.Spec := ⟨oLs ++ [(9, .bool false)], xmF ++ [xvQ], [], 3, []⟩
def oC : Sy.Spec := ⟨oLs ++ [(18, .bool false)], xmF ++ [xvQ], [], 3, []⟩
end Go.Proofs.YtikhnofbbcmpeaaGreat
set_option maxRecDepth 100000
set_option linter.unusedVariables false
namespace Go.Proofs.YtikhnofbbcmpeaaGreat
open Go Go.Sy
noncomputable def of0 (s : Int) (ships : List (List Int)) : Option (Nat × List U) :=
 some (0, [.i (s), .r (ships), .i ((0 : Int))])
noncomputable def of1 (s : Int) (ships : List (List Int)) (z : Int) : Option (Nat × List U) :=
 some (0, [.i (s), .i ((0 : Int)), .r (ships), .i (z)])
noncomputable def of2 (s i : Int) (ships : List (List Int)) (z : Int) : Option (Nat × List U) :=
 some (0, [.i (s), .i (i), .b (decide (i < (↑(ships).length : Int))), .r (ships), .i (z)])
noncomputable def of3 (s i : Int) (ships : List (List Int)) (z : Int) : Option (Nat × List U) :=
 some (0, [.i (s), .i (IntKind.i64.wrap (i + (1 : Int))), .r (ships), .i (z)])
noncomputable def of4 (s i : Int) (ships : List (List Int)) (z : Int) : Option (Nat × List U) :=
 xab (inR (i) (ships)) (xab (inR (i) (ships)) (xab (inR (i) (ships)) (some (0, [.i (s), .i (i), .b (((ships).getD (i).toNat []).getD 0 (0 : Int) == s), .r (ships), .i (z)]))))
noncomputable def of6 (s i : Int) (ships : List (List Int)) (z : Int) : Option (Nat × List U) :=
 some (0, [.i (s), .i (i), .r (ships), .i ((0 : Int))])
end Go.Proofs.YtikhnofbbcmpeaaGreat
set_option maxRecDepth 100000
set_option linter.unusedVariables false
namespace Go.Proofs.YtikhnofbbcmpeaaGreat
open Go Go.Sy
theorem xBO (s : Int) (ships : List (List Int)) : xd9 Tryz.prog K43 9 24 (o0) [(.normal, oA)] (opc 0) [.i s, .r ships] = of0 s ships := by kernel_rfl
theorem xBN (s : Int) (ships : List (List Int)) (z : Int) : xd9 Tryz.prog K43 9 24 (oA) [(.normal, oL)] (opc 1) [.i s, .r ships, .i z] = of1 s ships z := by kernel_rfl
theorem xAf (s i : Int) (ships : List (List Int)) (z : Int) : xd9 Tryz.prog K43 9 24 (oL) [(.normal, oB)] (opc 2) [.i s, .i i, .r ships, .i z] = of2 s i ships z := by kernel_rfl
theorem xBM (s i : Int) (ships : List (List Int)) (z : Int) : xd9 Tryz.prog K43 9 24 (oL) [(.normal, oL)] (opc 3) [.i s, .i i, .r ships, .i z] = of3 s i ships z := by kernel_rfl
theorem xBL (s i : Int) (ships : List (List Int)) (z : Int) : xd9 Tryz.prog K43 9 24 (oL) [(.normal, oC)] (opc 4) [.i s, .i i, .r ships, .i z] = of4 s i ships z := by kernel_rfl
theorem xBK (s i : Int) (ships : List (List Int)) (z : Int) : xd9 Tryz.prog K43 9 24 (oL) [(.normal, oL)] (opc 6) [.i s, .i i, .r ships, .i z] = of6 s i ships z := by kernel_rfl
end Go.Proofs.YtikhnofbbcmpeaaGreat
set_option linter.unusedVariables false
namespace Go.Proofs.YtikhnofbbcmpeaaGreat
open Go Go.Sy
noncomputable def xkk (s : Int) (ships : List (List Int)) : Int × List (List Int) := match ships.find? (fun x => x.getD 0 0 == s) with
 | some x => (x.getD 0 0, decL (x.getD 1 0))
 | none => (0, [])
noncomputable def xc9 (ship : Int) (ships : List (List Int)) : Int := (xkk ship ships).1
noncomputable def xc8 (ship : Int) (ships : List (List Int)) : List (List Int) := (xkk ship ships).2
def xfx (ship : Int) (ships : List (List Int)) : Prop := ships.length ≤ 9223372036854775807
end Go.Proofs.YtikhnofbbcmpeaaGreat
set_option linter.unusedVariables false
namespace Go.Sy
open Go.RowKit
section
variable {P : Program} {X : List (Nat × Go.Obj)} {w0 w : World} {N : Nat} {E : Env} {ops : Array Oper} {rest : List Oper} {Q : Exit → Act → World → Prop} {c : Cfg} {a : Act} {o : Oper} {x : Eff} {d : Nat}
theorem xsy (hc : CfgOk X E w0 N c a w) (hg : o.guard = none) (hd : o.dst = some d) (hdN : d < N) (hz : xkZ P (rhoC c) c.heap.objs c.heap.next o.op = some x) (hx : x.holds)
  (h : ∀ E' v w', (∀ k, k < c.heap.next → E' k = E k) → v = x.v.den E' → CfgOk X E' w0 N ⟨fun t => match Nat.beq t d with | true => some x.v | false => c.tmps t, c.heap.eff x⟩ (a.put (some d) v) w' → wpListIn (FR none) 0 P ops Q rest (a.put (some d) v) w') :
  wpListIn (FR none) 0 P ops Q (o :: rest) a w := by
 obtain ⟨E', w', nx, g1, g2, g3, g4, g5, g6, _⟩ := hc.opE hz hx
 have henv : ∀ k, (E' k).oneCell' = true := by obtain ⟨_, _, _, _, hH⟩ := g4; exact hH.env
 have hp := g4.put (d := d) (v := x.v.den E') (u := some x.v) (E2 := E') hdN (fun o ho => ⟨rfl, xbv _⟩) henv (fun t y _ _ => (xaW y).2 fun _ _ => rfl) (fun y hy => by cases hy; exact ⟨rfl, g5⟩)
 refine xhS (v := x.v.den E') hg g6 g1 g2 ?_
 rw [hd]
 exact h E' _ w' g3 rfl hp
theorem xzC (hc : CfgOk X E w0 N c a w) (hg : o.guard = none) (hd : o.dst = none) (hz : xkZ P (rhoC c) c.heap.objs c.heap.next o.op = some x) (hx : x.holds)
  (h : ∀ E' w', (∀ k, k < c.heap.next → E' k = E k) → CfgOk X E' w0 N ⟨c.tmps, c.heap.eff x⟩ a w' → wpListIn (FR none) 0 P ops Q rest a w') :
  wpListIn (FR none) 0 P ops Q (o :: rest) a w := by
 obtain ⟨E', w', nx, g1, g2, g3, g4, g5, g6, _⟩ := hc.opE hz hx
 refine xhS (v := x.v.den E') hg g6 g1 g2 ?_
 rw [hd]
 exact h E' w' g3 g4
theorem xwR {t : TypeId} {y : Operand} {v : AV} (hc : CfgOk X E w0 N c a w) (hg : o.guard = none) (hd : o.dst = some d) (hdN : d < N) (ho : o.op = .load t y) (hy : rhoC c y = some v) (hz : xmN P c.heap.objs c.heap.next t v = some x) (hx : x.holds)
  (h : ∀ E' u, (∀ k, k < c.heap.next → E' k = E k) → u = x.v.den E' → (∀ o ∈ x.add, ∀ g, blkO (E' o.key) = some g → ∃ o' ∈ c.heap.objs, Inn E w o'.key o'.body g) →
   CfgOk X E' w0 N ⟨fun t => match Nat.beq t d with | true => some x.v | false => c.tmps t, c.heap.eff x⟩ (a.put (some d) u) w → wpListIn (FR none) 0 P ops Q rest (a.put (some d) u) w) :
  wpListIn (FR none) 0 P ops Q (o :: rest) a w := by
 obtain ⟨E', g1, g3, g4, g5, g6⟩ := hc.loadN ho hy hz hx
 have henv : ∀ k, (E' k).oneCell' = true := by obtain ⟨_, _, _, _, hH⟩ := g4; exact hH.env
 have hp := g4.put (d := d) (v := x.v.den E') (u := some x.v) (E2 := E') hdN (fun o ho => ⟨rfl, xbv _⟩) henv (fun t y _ _ => (xaW y).2 fun _ _ => rfl) (fun y hy => by cases hy; exact ⟨rfl, g5⟩)
 refine xhS (v := x.v.den E') hg (fun c e => by rw [ho] at e; cases e) g1 (.inl rfl) ?_
 rw [hd]
 exact h E' _ g3 rfl g6 hp
end
end Go.Sy
set_option linter.unusedVariables false
set_option maxRecDepth 100000
namespace Go.Proofs.YtikhnofbbcmpeaaGreat
open Go Go.Sy Go.Proofs Go.RowKit
noncomputable def ofF : Func := Tryz.f23
noncomputable def ofB : Code := ofF.body.getD .skip
theorem xxT : ofF.body = some ofB := by kernel_rfl
theorem xvP : ofF.ntmps = 24 := by kernel_rfl
noncomputable def xxU : Code := Code.seq (.seq (opc 2) (.cond (.tmp 9) .skip (.exit 0))) (.seq (.block 1 (.seq (opc 4) (.cond (.tmp 18) (.seq (opc 5) .ret) .skip))) (opc 3))
theorem xwN : ofB = Code.seq (opc 0) (.seq (.seq (opc 1) (.block 0 (.loop xxU))) (.seq (opc 6) .ret)) := by kernel_rfl
theorem xyN {s : Int} : ∀ {ships : List (List Int)} {i : Nat} (hi : i < ships.length), ((ships.getD i []).getD 0 0 == s) = true → (∀ j, j < i → ((ships.getD j []).getD 0 0 == s) = false) → xkk s ships = (ships[i].getD 0 0, decL (ships[i].getD 1 0))
 | [], i, hi, _, _ => by simp at hi
 | x :: r, 0, hi, hp, hn => by
  unfold xkk
  have : (x.getD 0 0 == s) = true := hp
  rw [List.find?_cons, this]; rfl
 | x :: r, i + 1, hi, hp, hn => by
  have h0 : (x.getD 0 0 == s) = false := hn 0 (by omega)
  have := xyN (ships := r) (i := i) (by simpa using hi) hp fun j hj => hn (j + 1) (by omega)
  unfold xkk at this ⊢
  rw [List.find?_cons, h0]
  exact this
theorem xyM {s : Int} : ∀ {ships : List (List Int)}, (∀ j, j < ships.length → ((ships.getD j []).getD 0 0 == s) = false) → xkk s ships = (0, [])
 | [], _ => rfl
 | x :: r, hn => by
  have h0 : (x.getD 0 0 == s) = false := hn 0 (by simp)
  have := xyM (ships := r) fun j hj => hn (j + 1) (by simpa using hj)
  unfold xkk at this ⊢
  rw [List.find?_cons, h0]
  exact this
theorem xDf {ships : List (List Int)} {i : Nat} (hi : i < ships.length) : ships.getD i [] = ships[i] := by rw [List.getD_eq_getElem?_getD, List.getElem?_eq_getElem hi]; rfl
section
variable {E : Env} {w0 w : World} {a : Act} {s z : Int} {ships : List (List Int)}
theorem xzw {Q : Exit → Act → World → Prop} {b : Bool} {i : Nat} (hc : CfgOk [] E w0 24 (oC.st [.i s, .i i, .b b, .r ships, .i z]) a w) (hi : i < ships.length)
  (hQ : ∀ E' c' a' w', (∀ k, k < 4 → E' k = E k) → CfgOk [] E' w0 24 c' a' w' → xd0 Tryz.prog c' ofF.results.toList = some [.agg [.int .i64 (ships[i].getD 0 0), .sl 4]] →
   (⟨4, 4, false, .row 29 xyj (decL (ships[i].getD 1 0))⟩ : Sy.Obj) ∈ c'.heap.objs → (∃ w2, Blw w0.heap.size w0 w2 ∧ ∀ g, blkO (E' 4) = some g → Inn E w2 0 (.nst 24 xyi ships) g) → Q .ret a' w') :
  (Code.seq (opc 5) .ret).wpIn (FR none) 0 Tryz.prog Q a w := by
 have hin : inR (i : Int) ships := ⟨by omega, by omega⟩
 have hgi : ships.getD (i : Int).toNat [] = ships[i] := by rw [Int.toNat_natCast]; exact xDf hi
 refine wpIn_seq (wpIn_region_list ?_)
 refine xsy (d := 19) hc rfl rfl (by omega) (x := ⟨none, [], 0, [], .sl 0⟩) (by kernel_rfl) trivial fun E1 v1 w1 hE1 hv1 hc1 => ?_
 refine xsy (d := 20) hc1 rfl rfl (by omega) (x := ⟨none, [], 0, [], .int .i64 i⟩) (by kernel_rfl) trivial fun E2 v2 w2 hE2 hv2 hc2 => ?_
 refine xsy (d := 21) hc2 rfl rfl (by omega) (x := ⟨some (inR i ships), [], 0, [], .ix 0 2 false i 0⟩) (by kernel_rfl) hin fun E3 v3 w3 hE3 hv3 hc3 => ?_
 refine xwR (d := 22) (t := 24) (y := .tmp 21) (v := .ix 0 2 false i 0) hc3 rfl rfl (by omega) rfl (by kernel_rfl)
  (x := ⟨some (inR i ships), [], 1, [⟨4, 4, false, .row 29 xyj (decL ((ships.getD (i : Int).toNat []).getD 1 0))⟩], .agg [.int .i64 ((ships.getD (i : Int).toNat []).getD 0 0), .sl 4]⟩) (by kernel_rfl) hin fun E4 v4 hE4 hv4 hinn hc4 => ?_
 have hbl : Blw w0.heap.size w0 w3 := by obtain ⟨_, _, _, _, hH⟩ := hc3; exact hH.below
 refine xzC hc4 rfl rfl (x := ⟨none, [2], 0, [⟨2, 5, true, .cells [.int .i64 ((ships.getD (i : Int).toNat []).getD 0 0), .sl 4]⟩], .val undef⟩) (by kernel_rfl) trivial fun E5 w5 hE5 hc5 => ?_
 show Code.wpIn _ _ _ _ _ _ _
 refine wpIn_ret ?_
 rw [hgi] at hinn hc5
 refine hQ E5 _ _ w5 (fun k hk => ?_) hc5 (by kernel_rfl) (by exact List.mem_of_getElem? (i := 1) (by kernel_rfl)) ⟨w3, hbl, fun g hg => ?_⟩
 ·rw [hE5 k (by show k < 5; omega), hE4 k (by show k < 4; omega), hE3 k (by show k < 4; omega), hE2 k (by show k < 4; omega), hE1 k (by show k < 4; omega)]
 ·rw [hE5 4 (by show 4 < 5; omega)] at hg
  obtain ⟨o', ho', hi'⟩ := hinn _ (List.mem_singleton.2 rfl) g hg
  have e3 : E3 0 = E 0 := by rw [hE3 0 (by show 0 < 4; omega), hE2 0 (by show 0 < 4; omega), hE1 0 (by show 0 < 4; omega)]
  rcases List.mem_cons.1 ho' with rfl | ho'
  ·exact xf1 e3 hi'
  ·rw [List.mem_singleton.1 ho'] at hi'
   exact hi'.elim
theorem xAT {Q : Exit → Act → World → Prop} (hlen : ships.length ≤ 9223372036854775807)
  (hno : (∀ j, j < ships.length → ((ships.getD j []).getD 0 0 == s) = false) → ∀ E' a' w', E' 0 = E 0 → CfgOk [] E' w0 24 (oL.st [.i s, .i ships.length, .r ships, .i z]) a' w' → Q (.exit 0) a' w')
  (hyes : ∀ i (hi : i < ships.length), ((ships.getD i []).getD 0 0 == s) = true → (∀ j, j < i → ((ships.getD j []).getD 0 0 == s) = false) → ∀ E' a' w', E' 0 = E 0 → CfgOk [] E' w0 24 (oC.st [.i s, .i i, .b true, .r ships, .i z]) a' w' →
   ∀ Q' : Exit → Act → World → Prop, (∀ a w, Q .ret a w → Q' .ret a w) → (Code.seq (opc 5) .ret).wpIn (FR none) 0 Tryz.prog Q' a' w') :
  ∀ (m i : Nat) (E1 : Env) (w : World) (a : Act), i + m = ships.length → (∀ j, j < i → ((ships.getD j []).getD 0 0 == s) = false) → E1 0 = E 0 → CfgOk [] E1 w0 24 (oL.st [.i s, .i i, .r ships, .i z]) a w → xnl (FR none) 0 Tryz.prog xxU Q a w := by
 intro m
 induction m with
 | zero =>
  intro i E1 w a him hn hE hc
  have hi : i = ships.length := by omega
  subst hi
  refine xdW (wpIn_seq (wpIn_seq (xaJ xoQ (i := 0) (y := .normal) (T := oB) hc (xAf _ _ _ _) rfl fun E2 a2 w2 hE2 hc2 => ?_)))
  have h9 := (hc2.point (t := 9) (v := .bool (decide ((ships.length : Int) < (ships.length : Int)))) (by kernel_rfl)).1
  refine wpIn_cond_false (h9.trans (by rw [decide_eq_false (by omega)]; rfl)) (wpIn_exit ?_)
  obtain ⟨E3, hE3, hc3⟩ := hc2.shape (P := Tryz.prog) (T := oL) (us := [.i s, .i ships.length, .r ships, .i z]) (by kernel_rfl)
  exact hno hn E3 a2 w2 (((hE3 0 (by show 0 < 3; omega)).trans (hE2 0 (by show 0 < 3; omega) (by show 0 < 3; omega))).trans hE) hc3
 | succ m ih =>
  intro i E1 w a him hn hE hc
  have hi : i < ships.length := by omega
  have hin : inR (i : Int) ships := ⟨by omega, by omega⟩
  refine xdW (wpIn_seq (wpIn_seq (xaJ xoQ (i := 0) (y := .normal) (T := oB) hc (xAf _ _ _ _) rfl fun E2 a2 w2 hE2 hc2 => ?_)))
  have h9 := (hc2.point (t := 9) (v := .bool (decide ((i : Int) < (ships.length : Int)))) (by kernel_rfl)).1
  refine wpIn_cond_true (h9.trans (by rw [decide_eq_true (by omega)]; rfl)) (wpIn_skip ?_)
  obtain ⟨E3, hE3, hc3⟩ := hc2.shape (P := Tryz.prog) (T := oL) (us := [.i s, .i i, .r ships, .i z]) (by kernel_rfl)
  show Code.wpIn _ _ _ _ _ _ _
  refine wpIn_seq (wpIn_block (wpIn_seq (xaJ xoQ (i := 0) (y := .normal) (T := oC) hc3 ((xBL s i ships z).trans (by unfold of4; rw [xaa hin, xaa hin, xaa hin])) rfl fun E4 a4 w4 hE4 hc4 => ?_)))
  have e4 : E4 0 = E 0 := (((hE4 0 (by show 0 < 3; omega) (by show 0 < 3; omega)).trans (hE3 0 (by show 0 < 3; omega))).trans (hE2 0 (by show 0 < 3; omega) (by show 0 < 3; omega))).trans hE
  have h18 := (hc4.point (t := 18) (v := .bool ((ships.getD (i : Int).toNat []).getD 0 0 == s)) (by kernel_rfl)).1
  rw [Int.toNat_natCast] at h18 hc4
  show Code.wpIn _ _ _ _ _ _ _
  cases hb : (ships.getD i []).getD 0 0 == s with
  | true =>
   rw [hb] at h18 hc4
   exact wpIn_cond_true h18 (hyes i hi hb hn E4 a4 w4 e4 hc4 _ fun a w h => h)
  | false =>
   rw [hb] at h18 hc4
   refine wpIn_cond_false h18 (wpIn_skip ?_)
   obtain ⟨E5, hE5, hc5⟩ := hc4.shape (P := Tryz.prog) (T := oL) (us := [.i s, .i i, .r ships, .i z]) (by kernel_rfl)
   show Code.wpIn _ _ _ _ _ _ _
   refine xaJ xoQ (i := 0) (y := .normal) (T := oL) hc5 (xBM _ _ _ _) rfl fun E6 a6 w6 hE6 hc6 => ?_
   have hw : IntKind.i64.wrap ((i : Int) + 1) = ((i + 1 : Nat) : Int) := by rw [xe6 (by omega)]; rfl
   rw [hw] at hc6
   refine ih (i + 1) E6 w6 a6 (by omega) (fun j hj => ?_) (((hE6 0 (by show 0 < 3; omega) (by show 0 < 3; omega)).trans (hE5 0 (by show 0 < 3; omega))).trans e4) hc6
   rcases Nat.lt_or_ge j i with h | h
   ·exact hn j h
   ·rw [show j = i by omega]; exact hb
end
noncomputable def xoo : List U → Option Eff
 | [.i ship, .r ships] => some ⟨some (xfx ship ships), [], 1, [⟨1, 1, false, .row 29 [.int .i64, .int .i64, .int .i64, .int .u64] (xc8 ship ships)⟩], .agg [.int .i64 (xc9 ship ships), .sl 1]⟩
 | _ => Option.none
theorem xAU : xdp Tryz.prog 23 := ⟨ofF, Tryz.func23, by
 have : (ofF.name == "runtime.NumGoroutine") = false := by kernel_rfl
 simpa using this, by rw [xxT]; rfl⟩
theorem xzx {E2 : Env} {w : World} {s : Int} {ships : List (List Int)} (hp : xfx s ships) (hH : xaf [] E2 w ⟨(xaL 1 [.i s, .r ships] xmF 1).1, 1⟩ w) :
  Calls Tryz.prog 23 (AV.denL E2 [.sl 0, .int .i64 s]).toArray w fun e w' => ∃ E', e = .returned ((AV.agg [.int .i64 (xc9 s ships), .sl 1]).den E') ∧
   xle E2 w 1 ⟨some (xfx s ships), [], 1, [⟨1, 1, false, .row 29 [.int .i64, .int .i64, .int .i64, .int .u64] (xc8 s ships)⟩], .agg [.int .i64 (xc9 s ships), .sl 1]⟩ E' w' fun b => ∃ o ∈ (xaL 1 [.i s, .r ships] xmF 1).1, Inn E2 w o.key o.body b := by
 have hnst : (⟨0, 1, false, .nst 24 xyi ships⟩ : Sy.Obj) ∈ (xaL 1 [.i s, .r ships] xmF 1).1 := List.mem_singleton.2 rfl
 have done : ∀ (v : Value) (w' : World), v.oneCell' = true → Blw w.heap.size w w' → xaZ w' false 29 4 v (xc8 s ships).length (rowV [.int .i64, .int .i64, .int .i64, .int .u64] (xc8 s ships)) →
   (∀ g, blkO v = some g → Inn E2 w 0 (.nst 24 xyi ships) g) → ∃ E', Ending.returned (.agg #[.int .i64 (xc9 s ships), v]) = .returned ((AV.agg [.int .i64 (xc9 s ships), .sl 1]).den E') ∧
   xle E2 w 1 ⟨some (xfx s ships), [], 1, [⟨1, 1, false, .row 29 [.int .i64, .int .i64, .int .i64, .int .u64] (xc8 s ships)⟩], .agg [.int .i64 (xc9 s ships), .sl 1]⟩ E' w' fun b => ∃ o ∈ (xaL 1 [.i s, .r ships] xmF 1).1, Inn E2 w o.key o.body b := by
  intro v w' hv hbl hr hi
  have e1 : (fun k => if k = 1 then v else E2 k : Env) 1 = v := if_pos rfl
  refine ⟨fun k => if k = 1 then v else E2 k, rfl, ⟨fun k hk => if_neg (by omega), fun k => ?_, hbl, fun o ho => ?_, fun o ho b hb => ?_, fun o ho o' ho' hown hne => ?_, fun o ho b hb => ?_, fun o ho b hb => ?_⟩⟩
  ·show (if k = 1 then v else E2 k).oneCell' = true
   split
   ·exact hv
   ·exact hH.env k
  ·rw [List.mem_singleton.1 ho]
   exact hr
  ·rw [List.mem_singleton.1 ho] at hb ⊢
   exact .inr ⟨rfl, rfl, _, hnst, hi b hb⟩
  ·rw [List.mem_singleton.1 ho] at hown
   cases hown
  ·rw [List.mem_singleton.1 ho] at hb
   exact hb.elim
  ·rw [List.mem_singleton.1 ho] at hb
   exact hb.elim
 refine xnX (P := Tryz.prog) (fn := ofF) (code := ofB) Tryz.func23 xxT (by rw [xvP]; exact (by decide : 2 ≤ 24)) hH ⟨(by show 0 < 1; omega), trivial, trivial⟩ fun a hc => ?_
 rw [xvP] at hc ⊢
 obtain ⟨E1, hE1, hc1⟩ := hc.shape (P := Tryz.prog) (T := o0) (us := [.i s, .r ships]) (by kernel_rfl)
 have e1 : E1 0 = E2 0 := hE1 0 (by show 0 < 1; omega)
 rw [xwN]
 refine wpIn_seq (xaJ xoQ (i := 0) (y := .normal) (T := oA) hc1 (xBO _ _) rfl fun E3 a3 w3 hE3 hc3 => ?_)
 have e3 : E3 0 = E2 0 := (hE3 0 (by show 0 < 1; omega) (by show 0 < 3; omega)).trans e1
 show Code.wpIn _ _ _ _ _ _ _
 refine wpIn_seq (wpIn_seq (xaJ xoQ (i := 0) (y := .normal) (T := oL) hc3 (xBN _ _ _) rfl fun E4 a4 w4 hE4 hc4 => ?_))
 have e4 : E4 0 = E2 0 := (hE4 0 (by show 0 < 3; omega) (by show 0 < 3; omega)).trans e3
 show Code.wpIn _ _ _ _ _ _ _
 refine wpIn_block (xgw (xAT (E := E2) hp (fun hno E5 a5 w5 e5 hc5 => ?_) (fun i hi hb hn E5 a5 w5 e5 hc5 Q' hQ' => ?_) ships.length 0 E4 w4 a4 (by omega) (fun j hj => by omega) e4 hc4))
 ·have e0 : ∀ Q' : Exit → Act → World → Prop, Exit.inBlock 0 Q' (.exit 0) a5 w5 = Q' .normal a5 w5 := fun Q' => by
   show (if (0 : Nat) = 0 then Q' .normal a5 w5 else Q' (.exit 0) a5 w5) = _
   rw [if_pos rfl]
  rw [e0]
  show Code.wpIn _ _ _ _ _ _ _
  refine wpIn_seq (xaJ xoQ (i := 0) (y := .normal) (T := oL) hc5 (xBK _ _ _ _) rfl fun E6 a6 w6 hE6 hc6 => ?_)
  show Code.wpIn _ _ _ _ _ _ _
  refine wpIn_ret ⟨[], E6, _, .agg [.int .i64 0, .val (.slice none 0 0)], hc6, by kernel_rfl, fun w' hH' => ?_⟩
  have hf := xyM hno
  have h0 : xc9 s ships = 0 := congrArg Prod.fst hf
  have h1 : xc8 s ships = [] := congrArg Prod.snd hf
  have := done (.slice none 0 0) w' rfl hH'.below (by
   rw [h1]
   have hr : xaZ w' true 29 4 (.slice none 0 0) 0 [] := xcf (.inl ⟨none, rfl, rfl⟩) rfl
   exact ⟨hr.reads, hr.len, fun h => by cases h⟩) fun g hg => by cases hg
  rw [h0] at this ⊢
  exact this
 ·refine xzw hc5 hi fun E6 c' a6 w6 hE6 hc6 hres hmem ⟨w2, hbl2, hinn⟩ => hQ' _ _ ⟨[], E6, c', _, hc6, hres, fun w' hH' => ?_⟩
  have hf := xyN hi hb hn
  have h0 : xc9 s ships = ships[i].getD 0 0 := congrArg Prod.fst hf
  have h1 : xc8 s ships = decL (ships[i].getD 1 0) := congrArg Prod.snd hf
  have hb4 := hH'.objs _ hmem
  have := done (E6 4) w' (hH'.env 4) hH'.below (by rw [h1]; exact hb4) fun g hg => by
   have h2 := hinn g hg
   exact xh1 (hH.objs _ hnst) e5 (fun g hg => hbl2.block g (xlF (hH.objs _ hnst) hg)) h2
  rw [h0] at this ⊢
  exact this
noncomputable def KOf : Con := ext Tryz.prog K43 23 [.sl 0, .int .i64 0] [⟨0, 0, false, .nst 24 [.c (.int .i64), .s 29 [.int .i64, .int .i64, .int .i64, .int .u64]] []⟩] xoo
theorem xCs : xbc Tryz.prog KOf := xrM xoQ rfl rfl fun us x h => by
 unfold xoo at h
 split at h
 ·cases h
  exact ⟨xAU, ⟨rfl, fun o ho => (by rw [List.mem_singleton.1 ho]; exact ⟨Nat.le_refl _, by show 1 < 1 + 1; omega⟩), by simp, fun o ho => (by rw [List.mem_singleton.1 ho]; rfl), ⟨trivial, (by show 1 < 1 + 1; omega), trivial⟩, fun o ho => (by rw [List.mem_singleton.1 ho]; exact Nat.le_refl _)⟩, fun hp E2 w hH => xzx hp hH⟩
 ·cases h
end Go.Proofs.YtikhnofbbcmpeaaGreat
set_option maxRecDepth 100000
set_option linter.unusedVariables false
namespace Go.Proofs.YtikhnofbbcmpeaaGreat
open Go Go.Sy
noncomputable def xhO (n : Int) (list : List (List Int)) : List U :=
 [.i ((0 : Int)), .r ([])]
noncomputable def xcO (n : Int) (list : List (List Int)) (y0 : List U) : Option (Nat × List U) :=
 (bif decide (gi y0 0 < (↑list.length : Int)) then xab (inR (gi y0 0) list) (xab (inR (gi y0 0) list) ((bif decide ((list.getD (gi y0 0).toNat []).getD 0 (0 : Int) < n) then xab (inR (gi y0 0) list) (xab (inR (gi y0 0) list) (xab (xbf 8 ((gr y0 1).length + [[(list.getD (gi y0 0).toNat []).getD 0 (0 : Int)]].length)) (some (0, [.i (IntKind.i64.wrap (gi y0 0 + (1 : Int))), .r (gr y0 1 ++ [[(list.getD (gi y0 0).toNat []).getD 0 (0 : Int)]])])))) else some (0, [.i (IntKind.i64.wrap (gi y0 0 + (1 : Int))), .r (gr y0 1)])))) else some (3, [.i (gi y0 0), .r (gr y0 1)]))
noncomputable def xjg (n : Int) (list : List (List Int)) : Nat × List U := xan (xcO n list) (xhO n list)
noncomputable def xeE (n : Int) (list : List (List Int)) : List U :=
 [.i ((0 : Int)), .r (gr (xjg n list).snd 1 ++ [[n]])]
noncomputable def xdt (n : Int) (list : List (List Int)) (y1 : List U) : Option (Nat × List U) :=
 (bif decide (gi y1 0 < (↑list.length : Int)) then xab (inR (gi y1 0) list) (xab (inR (gi y1 0) list) ((bif decide ((list.getD (gi y1 0).toNat []).getD 0 (0 : Int) > n) then xab (inR (gi y1 0) list) (xab (inR (gi y1 0) list) (xab (xbf 8 ((gr y1 1).length + [[(list.getD (gi y1 0).toNat []).getD 0 (0 : Int)]].length)) (some (0, [.i (IntKind.i64.wrap (gi y1 0 + (1 : Int))), .r (gr y1 1 ++ [[(list.getD (gi y1 0).toNat []).getD 0 (0 : Int)]])])))) else some (0, [.i (IntKind.i64.wrap (gi y1 0 + (1 : Int))), .r (gr y1 1)])))) else some (3, [.i (gi y1 0), .r (gr y1 1)]))
noncomputable def xmr (n : Int) (list : List (List Int)) : Nat × List U := xan (xdt n list) (xeE n list)
noncomputable def xfv (n : Int) (list : List (List Int)) : List (List Int) :=
 gr (xmr n list).snd 1
def xee (n : Int) (list : List (List Int)) : Prop :=
 (((xaz (xcO n list) (xhO n list))) ∧ ((xbf 8 ((gr (xjg n list).snd 1).length + [[n]].length)) ∧ ((xaz (xdt n list) (xeE n list)))))
noncomputable def xfI (time delay : Int) (ships chances : List (List Int)) (y0 : List U) : List U :=
 [.i ((0 : Int)), .r ([])]
noncomputable def xb0 (time delay : Int) (ships chances : List (List Int)) (y0 : List U) (y1 : List U) : Option (Nat × List U) :=
 (bif decide (gi y1 0 < (↑chances.length : Int)) then xab (inR (gi y1 0) chances) (xab (inR (gi y1 0) chances) (xab (inR (gi y0 0) ships) (xab (inR (gi y0 0) ships) (xab (xeX ((ships.getD (gi y0 0).toNat []).getD 0 (0 : Int)) (3 : Int) ((chances.getD (gi y1 0).toNat []).getD 1 (0 : Int)) (0 : Int) time
 (decL ((ships.getD (gi y0 0).toNat []).getD 1 (0 : Int)))) (xab (inR (gi y0 0) ships) (xab (inR (gi y0 0) ships) (xab (inR (gi y0 0) ships) ((bif (chances.getD (gi y1 0).toNat []).getD 0 (0 : Int) == (ships.getD (gi y0 0).toNat []).getD 0 (0 : Int) &&
  decide (IntKind.i64.wrap ((chances.getD (gi y1 0).toNat []).getD 2 (0 : Int) + delay) ≤ time) &&
 !xeH ((ships.getD (gi y0 0).toNat []).getD 0 (0 : Int)) (3 : Int) ((chances.getD (gi y1 0).toNat []).getD 1 (0 : Int)) (0 : Int) time
   (decL ((ships.getD (gi y0 0).toNat []).getD 1 (0 : Int))) then xab (xee ((chances.getD (gi y1 0).toNat []).getD 1 (0 : Int)) (gr y1 1)) (some (0, [.i (IntKind.i64.wrap (gi y1 0 + (1 : Int))), .r (xfv ((chances.getD (gi y1 0).toNat []).getD 1 (0 : Int)) (gr y1 1))])) else some (0, [.i (IntKind.i64.wrap (gi y1 0 + (1 : Int))), .r (gr y1 1)])))))))))) else some (3, [.i (gi y1 0), .r (gr y1 1)]))
noncomputable def xfJ (time delay : Int) (ships chances : List (List Int)) (y0 : List U) : Nat × List U := xan (xb0 time delay ships chances y0) (xfI time delay ships chances y0)
noncomputable def xjf (time delay : Int) (ships chances : List (List Int)) (y0 y2 : List U) : List (List Int) :=
 [[(ships.getD (gi y0 0).toNat []).getD 0 (0 : Int), ((gr (xfJ time delay ships chances y0).snd 1).getD (gi y2 0).toNat []).getD 0 (0 : Int)]]
noncomputable def xfH (time delay : Int) (ships chances : List (List Int)) (y0 : List U) : List U :=
 [.i ((0 : Int)), .r (gr y0 1)]
noncomputable def xbZ (time delay : Int) (ships chances : List (List Int)) (y0 : List U) (y2 : List U) : Option (Nat × List U) :=
 (bif decide (gi y2 0 < (↑(gr (xfJ time delay ships chances y0).snd 1).length : Int)) then xab (inR (gi y0 0) ships) (xab (inR (gi y0 0) ships) (xab (inR (gi y0 0) ships) (xab (inR (gi y2 0) (gr (xfJ time delay ships chances y0).snd 1)) (xab (inR (gi y2 0) (gr (xfJ time delay ships chances y0).snd 1)) (xab (xbf 16 ((gr y2 1).length + ((xjf time delay ships chances y0 y2)).length)) (some (0, [.i (IntKind.i64.wrap (gi y2 0 + (1 : Int))), .r (gr y2 1 ++ (xjf time delay ships chances y0 y2))]))))))) else some (2, [.i (gi y2 0), .r (gr y2 1)]))
noncomputable def xmq (time delay : Int) (ships chances : List (List Int)) (y0 : List U) : Nat × List U := xan (xbZ time delay ships chances y0) (xfH time delay ships chances y0)
noncomputable def xhN (time delay : Int) (ships chances : List (List Int)) : List U :=
 [.i ((0 : Int)), .r ([])]
noncomputable def xcN (time delay : Int) (ships chances : List (List Int)) (y0 : List U) : Option (Nat × List U) :=
 (bif decide (gi y0 0 < (↑ships.length : Int)) then xab ((xaz (xb0 time delay ships chances y0) (xfI time delay ships chances y0))) (xab ((xaz (xbZ time delay ships chances y0) (xfH time delay ships chances y0))) (some (0, [.i (IntKind.i64.wrap (gi y0 0 + (1 : Int))), .r (gr (xmq time delay ships chances y0).snd 1)]))) else some (2, [.i (gi y0 0), .r (gr y0 1)]))
noncomputable def xse (time delay : Int) (ships chances : List (List Int)) : Nat × List U := xan (xcN time delay ships chances) (xhN time delay ships chances)
noncomputable def xaB (time delay : Int) (ships chances : List (List Int)) : List (List Int) :=
 gr (xse time delay ships chances).snd 1
def xfg (time delay : Int) (ships chances : List (List Int)) : Prop :=
 ((xaz (xcN time delay ships chances) (xhN time delay ships chances)))
noncomputable def xjH (ship_Owner time delay g_Ship g_Item : Int) (ship_Lines chances : List (List Int)) : List U :=
 [.b (false), .i ((0 : Int))]
noncomputable def xdq (ship_Owner time delay g_Ship g_Item : Int) (ship_Lines chances : List (List Int)) (y0 : List U) : Option (Nat × List U) :=
 (bif decide (gi y0 1 < (↑chances.length : Int)) then xab (inR (gi y0 1) chances) (xab (inR (gi y0 1) chances) ((bif (chances.getD (gi y0 1).toNat []).getD 0 (0 : Int) != g_Ship || (chances.getD (gi y0 1).toNat []).getD 1 (0 : Int) != g_Item ||
 decide (IntKind.i64.wrap ((chances.getD (gi y0 1).toNat []).getD 2 (0 : Int) + delay) > time) then some (0, [.b (gb y0 0), .i (IntKind.i64.wrap (gi y0 1 + (1 : Int)))]) else xab (xfL ship_Owner ((chances.getD (gi y0 1).toNat []).getD 2 (0 : Int)) ship_Lines) (xab (((!xdZ ship_Owner ((chances.getD (gi y0 1).toNat []).getD 2 (0 : Int)) ship_Lines && decide ((↑ship_Lines.length : Int) > (0 : Int))) = true) → (inR (IntKind.i64.wrap ((↑ship_Lines.length : Int) - (1 : Int))) ship_Lines)) (xab (((!xdZ ship_Owner ((chances.getD (gi y0 1).toNat []).getD 2 (0 : Int)) ship_Lines && decide ((↑ship_Lines.length : Int) > (0 : Int))) = true) → (inR (IntKind.i64.wrap ((↑ship_Lines.length : Int) - (1 : Int))) ship_Lines)) (xab (((!xdZ ship_Owner ((chances.getD (gi y0 1).toNat []).getD 2 (0 : Int)) ship_Lines && decide ((↑ship_Lines.length : Int) > (0 : Int))) = true) → (inR (IntKind.i64.wrap ((↑ship_Lines.length : Int) - (1 : Int))) ship_Lines)) ((bif !xdZ ship_Owner ((chances.getD (gi y0 1).toNat []).getD 2 (0 : Int)) ship_Lines && decide ((↑ship_Lines.length : Int) > (0 : Int)) &&
 decide ((ship_Lines.getD (IntKind.i64.wrap ((↑ship_Lines.length : Int) - (1 : Int))).toNat []).getD 0 (0 : Int) ≥ (chances.getD (gi y0 1).toNat []).getD 2 (0 : Int)) then some (2, []) else some (0, [.b (gb y0 0), .i (IntKind.i64.wrap (gi y0 1 + (1 : Int)))]))))))))) else some (4, [.b (gb y0 0), .i (gi y0 1)]))
noncomputable def xuH (ship_Owner time delay g_Ship g_Item : Int) (ship_Lines chances : List (List Int)) : Nat × List U := xan (xdq ship_Owner time delay g_Ship g_Item ship_Lines chances) (xjH ship_Owner time delay g_Ship g_Item ship_Lines chances)
noncomputable def xix (ship_Owner time delay g_Ship g_Item : Int) (ship_Lines chances : List (List Int)) : Bool :=
 bif (xuH ship_Owner time delay g_Ship g_Item ship_Lines chances).fst.beq 2 then false else true
def xfw (ship_Owner time delay g_Ship g_Item : Int) (ship_Lines chances : List (List Int)) : Prop :=
 ((xaz (xdq ship_Owner time delay g_Ship g_Item ship_Lines chances) (xjH ship_Owner time delay g_Ship g_Item ship_Lines chances)))
noncomputable def xop (office_Owner time delay : Int) (office_Lines ships chances : List (List Int)) (y0 : List U) : Int :=
 bif
  xix (xc9 (((xaB time delay ships chances).getD (gi y0 0).toNat []).getD 0 (0 : Int)) ships) time delay
   (((xaB time delay ships chances).getD (gi y0 0).toNat []).getD 0 (0 : Int))
   (((xaB time delay ships chances).getD (gi y0 0).toNat []).getD 1 (0 : Int))
   (xc8 (((xaB time delay ships chances).getD (gi y0 0).toNat []).getD 0 (0 : Int)) ships) chances then
 (1 : Int)
else (0 : Int)
noncomputable def xkc (office_Owner time delay : Int) (office_Lines ships chances : List (List Int)) (y0 : List U) : List Int :=
 [((xaB time delay ships chances).getD (gi y0 0).toNat []).getD 1 (0 : Int),
 bif !xeH office_Owner (1 : Int) (((xaB time delay ships chances).getD (gi y0 0).toNat []).getD 1 (0 : Int)) (0 : Int) (10000000 : Int) office_Lines then (1 : Int)
 else (0 : Int),
 (xop office_Owner time delay office_Lines ships chances y0)]
noncomputable def xiB (office_Owner time delay : Int) (office_Lines ships chances : List (List Int)) : List U :=
 [.i ((0 : Int)), .r ([])]
noncomputable def xdc (office_Owner time delay : Int) (office_Lines ships chances : List (List Int)) (y0 : List U) : Option (Nat × List U) :=
 (bif decide (gi y0 0 < (↑(xaB time delay ships chances).length : Int)) then xab (inR (gi y0 0) (xaB time delay ships chances)) (xab (inR (gi y0 0) (xaB time delay ships chances)) (xab (inR (gi y0 0) (xaB time delay ships chances)) (xab (xeX office_Owner (1 : Int) (((xaB time delay ships chances).getD (gi y0 0).toNat []).getD 1 (0 : Int)) (0 : Int) (10000000 : Int) office_Lines) (xab (inR (gi y0 0) (xaB time delay ships chances)) (xab (inR (gi y0 0) (xaB time delay ships chances)) (xab (inR (gi y0 0) (xaB time delay ships chances)) (xab (xfx (((xaB time delay ships chances).getD (gi y0 0).toNat []).getD 0 (0 : Int)) ships) (xab (inR (gi y0 0) (xaB time delay ships chances)) (xab (inR (gi y0 0) (xaB time delay ships chances)) (xab (xfw (xc9 (((xaB time delay ships chances).getD (gi y0 0).toNat []).getD 0 (0 : Int)) ships) time delay
 (((xaB time delay ships chances).getD (gi y0 0).toNat []).getD 0 (0 : Int))
 (((xaB time delay ships chances).getD (gi y0 0).toNat []).getD 1 (0 : Int))
 (xc8 (((xaB time delay ships chances).getD (gi y0 0).toNat []).getD 0 (0 : Int)) ships) chances) (xab (inR (gi y0 0) (xaB time delay ships chances)) (xab (inR (gi y0 0) (xaB time delay ships chances)) (xab (xbf 24 ((gr y0 1).length + [((xaB time delay ships chances).getD (gi y0 0).toNat []).getD 0 (0 : Int) :: (xkc office_Owner time delay office_Lines ships chances y0)].length)) (some (0, [.i (IntKind.i64.wrap (gi y0 0 + (1 : Int))), .r (gr y0 1 ++ [((xaB time delay ships chances).getD (gi y0 0).toNat []).getD 0 (0 : Int) :: (xkc office_Owner time delay office_Lines ships chances y0)])]))))))))))))))) else some (2, [.i (gi y0 0), .r (gr y0 1)]))
noncomputable def xtq (office_Owner time delay : Int) (office_Lines ships chances : List (List Int)) : Nat × List U := xan (xdc office_Owner time delay office_Lines ships chances) (xiB office_Owner time delay office_Lines ships chances)
noncomputable def xeJ (office_Owner time delay : Int) (office_Lines ships chances : List (List Int)) : List (List Int) :=
 gr (xtq office_Owner time delay office_Lines ships chances).snd 1
def xeY (office_Owner time delay : Int) (office_Lines ships chances : List (List Int)) : Prop :=
 ((xfg time delay ships chances) ∧ ((xaz (xdc office_Owner time delay office_Lines ships chances) (xiB office_Owner time delay office_Lines ships chances))))
noncomputable def xgk (x_Gap_Ship x_Gap_Item : Int) (x_Sent x_On : Bool) (o_Kind o_Ship o_Item : Int) : Bool :=
 bif o_Kind == (1 : Int) then x_Sent && o_Ship == (0 : Int) && o_Item == x_Gap_Item
else bif o_Kind == (2 : Int) then x_On && o_Ship == x_Gap_Ship && o_Item == (0 : Int) else o_Kind == (3 : Int) && o_Ship == x_Gap_Ship && o_Item == x_Gap_Item
noncomputable def xdB (a_Kind a_Ship a_Item b_Kind b_Ship b_Item : Int) : Bool :=
 bif a_Kind != b_Kind then decide (a_Kind < b_Kind) else bif a_Ship != b_Ship then decide (a_Ship < b_Ship) else decide (a_Item < b_Item)
noncomputable def xcn (list omissions : List (List Int)) : List U :=
 [.b (false), .i ((1 : Int))]
noncomputable def xbk (list omissions : List (List Int)) (y0 : List U) : Option (Nat × List U) :=
 (bif decide (gi y0 1 < (↑omissions.length : Int)) then xab (inR (IntKind.i64.wrap (gi y0 1 - (1 : Int))) omissions) (xab (inR (IntKind.i64.wrap (gi y0 1 - (1 : Int))) omissions) (xab (inR (gi y0 1) omissions) (xab (inR (gi y0 1) omissions) ((bif !xdB ((omissions.getD (IntKind.i64.wrap (gi y0 1 - (1 : Int))).toNat []).getD 0 (0 : Int))
  ((omissions.getD (IntKind.i64.wrap (gi y0 1 - (1 : Int))).toNat []).getD 1 (0 : Int))
  ((omissions.getD (IntKind.i64.wrap (gi y0 1 - (1 : Int))).toNat []).getD 2 (0 : Int)) ((omissions.getD (gi y0 1).toNat []).getD 0 (0 : Int))
  ((omissions.getD (gi y0 1).toNat []).getD 1 (0 : Int)) ((omissions.getD (gi y0 1).toNat []).getD 2 (0 : Int)) then some (1, []) else some (0, [.b (gb y0 0), .i (IntKind.i64.wrap (gi y0 1 + (1 : Int)))])))))) else some (3, [.b (gb y0 0), .i (gi y0 1)]))
noncomputable def xdb (list omissions : List (List Int)) : Nat × List U := xan (xbk list omissions) (xcn list omissions)
noncomputable def xen (list omissions : List (List Int)) (y1 : List U) : List U :=
 [.b (false), .i ((0 : Int))]
noncomputable def xcm (list omissions : List (List Int)) (y1 : List U) (y2 : List U) : Option (Nat × List U) :=
 (bif decide (gi y2 1 < (↑omissions.length : Int)) then xab ((gb y2 0 = false) → (inR (gi y1 1) list)) (xab ((gb y2 0 = false) → (inR (gi y1 1) list)) (xab ((gb y2 0 = false) → (inR (gi y2 1) omissions)) (xab ((gb y2 0 = false) → (inR (gi y2 1) omissions)) (some (0, [.b (gb y2 0 ||
 xgk ((list.getD (gi y1 1).toNat []).getD 0 (0 : Int)) ((list.getD (gi y1 1).toNat []).getD 1 (0 : Int))
  ((list.getD (gi y1 1).toNat []).getD 2 (0 : Int) != (0 : Int)) ((list.getD (gi y1 1).toNat []).getD 3 (0 : Int) != (0 : Int))
  ((omissions.getD (gi y2 1).toNat []).getD 0 (0 : Int)) ((omissions.getD (gi y2 1).toNat []).getD 1 (0 : Int))
  ((omissions.getD (gi y2 1).toNat []).getD 2 (0 : Int))), .i (IntKind.i64.wrap (gi y2 1 + (1 : Int)))]))))) else some (2, [.b (gb y2 0), .i (gi y2 1)]))
noncomputable def xiA (list omissions : List (List Int)) (y1 : List U) : Nat × List U := xan (xcm list omissions y1) (xen list omissions y1)
noncomputable def xgb (list omissions : List (List Int)) : List U :=
 [.b (gb (xdb list omissions).snd 0), .i ((0 : Int))]
noncomputable def xa0 (list omissions : List (List Int)) (y1 : List U) : Option (Nat × List U) :=
 (bif decide (gi y1 1 < (↑list.length : Int)) then xab ((xaz (xcm list omissions y1) (xen list omissions y1))) ((bif !gb (xiA list omissions y1).snd 0 then some (1, []) else some (0, [.b (gb y1 0), .i (IntKind.i64.wrap (gi y1 1 + (1 : Int)))]))) else some (3, [.b (gb y1 0), .i (gi y1 1)]))
noncomputable def xny (list omissions : List (List Int)) : Nat × List U := xan (xa0 list omissions) (xgb list omissions)
noncomputable def xdr (list omissions : List (List Int)) : Bool :=
 bif (xdb list omissions).fst.beq 1 then false else bif (xny list omissions).fst.beq 1 then false else true
def xcP (list omissions : List (List Int)) : Prop :=
 (((xaz (xbk list omissions) (xcn list omissions))) ∧ (((xdb list omissions).fst.beq 1 = false) → ((xaz (xa0 list omissions) (xgb list omissions)))))
noncomputable def xhm (a b : List (List Int)) : List U :=
 [.b (false), .i ((0 : Int))]
noncomputable def xhl (a b : List (List Int)) (y0 : List U) : Option (Nat × List U) :=
 (bif decide (gi y0 1 < (↑a.length : Int)) then xab (inR (gi y0 1) a) (xab (inR (gi y0 1) a) (xab (inR (gi y0 1) b) (xab (inR (gi y0 1) b) ((bif !((a.getD (gi y0 1).toNat []).getD 0 (0 : Int) == (b.getD (gi y0 1).toNat []).getD 0 (0 : Int) &&
  ((a.getD (gi y0 1).toNat []).getD 1 (0 : Int) == (b.getD (gi y0 1).toNat []).getD 1 (0 : Int) &&
   ((a.getD (gi y0 1).toNat []).getD 2 (0 : Int) == (b.getD (gi y0 1).toNat []).getD 2 (0 : Int) && true))) then xab (inR (gi y0 1) a) (xab (inR (gi y0 1) a) (xab (inR (gi y0 1) b) (xab (inR (gi y0 1) b) (some (1, [.b (xdB ((a.getD (gi y0 1).toNat []).getD 0 (0 : Int)) ((a.getD (gi y0 1).toNat []).getD 1 (0 : Int))
 ((a.getD (gi y0 1).toNat []).getD 2 (0 : Int)) ((b.getD (gi y0 1).toNat []).getD 0 (0 : Int)) ((b.getD (gi y0 1).toNat []).getD 1 (0 : Int))
 ((b.getD (gi y0 1).toNat []).getD 2 (0 : Int)))]))))) else some (0, [.b (gb y0 0), .i (IntKind.i64.wrap (gi y0 1 + (1 : Int)))])))))) else some (3, [.b (gb y0 0), .i (gi y0 1)]))
noncomputable def xli (a b : List (List Int)) : Nat × List U := xan (xhl a b) (xhm a b)
noncomputable def xmz (a b : List (List Int)) : Bool :=
 bif (xli a b).fst.beq 1 then gb (xli a b).snd 0 else false
def xhk (a b : List (List Int)) : Prop :=
 ((xaz (xhl a b) (xhm a b)))
end Go.Proofs.YtikhnofbbcmpeaaGreat
set_option maxRecDepth 100000
set_option linter.unusedVariables false
namespace Go.Proofs.YtikhnofbbcmpeaaGreat
open Go Go.Sy
theorem xqY (n : Int) (list : List (List Int)) : xau Tryz.prog 1 (xa2 Tryz.prog KOf xcU 9 81 [.sl 0, .int .i64 n] ⟨[⟨0, 1, false, .row 3 [.int .i64] list⟩], 1⟩) = some ⟨some (xee n list), [], 1, [⟨1, 1, true, .row 3 [.int .i64] (xfv n list)⟩], .sl 1⟩ := by kernel_rfl
noncomputable def xlh : List U → Option Eff
 | [.i n, .r list] => some ⟨some (xee n list), [], 1, [⟨1, 1, true, .row 3 [.int .i64] (xfv n list)⟩], .sl 1⟩
 | _ => Option.none
noncomputable def K45 : Con := ext Tryz.prog KOf 81 [.sl 0, .int .i64 0] [⟨0, 0, false, .row 3 [.int .i64] []⟩] xlh
theorem xCB : xbc Tryz.prog K45 := xaw xaC xCs (n := 9) rfl rfl fun us x h => by
 unfold xlh at h
 split at h
 ·cases h; exact ⟨some (xee _ _), xqY _ _, fun h => h⟩
 ·cases h
theorem xqX (time delay : Int) (ships chances : List (List Int)) : xau Tryz.prog 2 (xa2 Tryz.prog K45 xcU 9 59 [.sl 0, .sl 1, .int .i64 time, .int .i64 delay] ⟨[⟨0, 2, false, .nst 24 [.c (.int .i64), .s 29 [.int .i64, .int .i64, .int .i64, .int .u64]] ships⟩, ⟨1, 2, false, .row 41 [.int .i64, .int .i64, .int .i64] chances⟩], 2⟩) = some ⟨some (xfg time delay ships chances), [], 1, [⟨2, 2, true, .row 52 [.int .i64, .int .i64] (xaB time delay ships chances)⟩], .sl 2⟩ := by kernel_rfl
noncomputable def xlg : List U → Option Eff
 | [.i time, .i delay, .r ships, .r chances] => some ⟨some (xfg time delay ships chances), [], 1, [⟨2, 2, true, .row 52 [.int .i64, .int .i64] (xaB time delay ships chances)⟩], .sl 2⟩
 | _ => Option.none
noncomputable def K46 : Con := ext Tryz.prog K45 59 [.sl 0, .sl 1, .int .i64 0, .int .i64 0] [⟨0, 0, false, .nst 24 [.c (.int .i64), .s 29 [.int .i64, .int .i64, .int .i64, .int .u64]] []⟩, ⟨1, 0, false, .row 41 [.int .i64, .int .i64, .int .i64] []⟩] xlg
theorem xCA : xbc Tryz.prog K46 := xaw xaC xCB (n := 9) rfl rfl fun us x h => by
 unfold xlg at h
 split at h
 ·cases h; exact ⟨some (xfg _ _ _ _), xqX _ _ _ _, fun h => h⟩
 ·cases h
theorem xtm (ship_Owner time delay g_Ship g_Item : Int) (ship_Lines chances : List (List Int)) : xau Tryz.prog 2 (xa2 Tryz.prog K46 xcU 9 60 [.agg [.int .i64 ship_Owner, .sl 0], .sl 1, .int .i64 time, .int .i64 delay, .agg [.int .i64 g_Ship, .int .i64 g_Item]] ⟨[⟨0, 2, false, .row 29 [.int .i64, .int .i64, .int .i64, .int .u64] ship_Lines⟩, ⟨1, 2, false, .row 41 [.int .i64, .int .i64, .int .i64] chances⟩], 2⟩) = some ⟨some (xfw ship_Owner time delay g_Ship g_Item ship_Lines chances), [], 0, [], .bool (xix ship_Owner time delay g_Ship g_Item ship_Lines chances)⟩ := by kernel_rfl
noncomputable def xon : List U → Option Eff
 | [.i ship_Owner, .i time, .i delay, .i g_Ship, .i g_Item, .r ship_Lines, .r chances] => some ⟨some (xfw ship_Owner time delay g_Ship g_Item ship_Lines chances), [], 0, [], .bool (xix ship_Owner time delay g_Ship g_Item ship_Lines chances)⟩
 | _ => Option.none
noncomputable def K47 : Con := ext Tryz.prog K46 60 [.agg [.int .i64 0, .sl 0], .sl 1, .int .i64 0, .int .i64 0, .agg [.int .i64 0, .int .i64 0]] [⟨0, 0, false, .row 29 [.int .i64, .int .i64, .int .i64, .int .u64] []⟩, ⟨1, 0, false, .row 41 [.int .i64, .int .i64, .int .i64] []⟩] xon
theorem xCz : xbc Tryz.prog K47 := xaw xaC xCA (n := 9) rfl rfl fun us x h => by
 unfold xon at h
 split at h
 ·cases h; exact ⟨some (xfw _ _ _ _ _ _ _), xtm _ _ _ _ _ _ _, fun h => h⟩
 ·cases h
theorem xsj (office_Owner time delay : Int) (office_Lines ships chances : List (List Int)) : xau Tryz.prog 3 (xa2 Tryz.prog K47 xcU 9 25 [.agg [.int .i64 office_Owner, .sl 0], .sl 1, .sl 2, .int .i64 time, .int .i64 delay] ⟨[⟨0, 3, false, .row 29 [.int .i64, .int .i64, .int .i64, .int .u64] office_Lines⟩, ⟨1, 3, false, .nst 24 [.c (.int .i64), .s 29 [.int .i64, .int .i64, .int .i64, .int .u64]] ships⟩, ⟨2, 3, false, .row 41 [.int .i64, .int .i64, .int .i64] chances⟩], 3⟩) = some ⟨some (xeY office_Owner time delay office_Lines ships chances), [], 1, [⟨3, 3, true, .row 105 [.int .i64, .int .i64, .bool, .bool] (xeJ office_Owner time delay office_Lines ships chances)⟩], .sl 3⟩ := by kernel_rfl
noncomputable def xmy : List U → Option Eff
 | [.i office_Owner, .i time, .i delay, .r office_Lines, .r ships, .r chances] => some ⟨some (xeY office_Owner time delay office_Lines ships chances), [], 1, [⟨3, 3, true, .row 105 [.int .i64, .int .i64, .bool, .bool] (xeJ office_Owner time delay office_Lines ships chances)⟩], .sl 3⟩
 | _ => Option.none
noncomputable def K48 : Con := ext Tryz.prog K47 25 [.agg [.int .i64 0, .sl 0], .sl 1, .sl 2, .int .i64 0, .int .i64 0] [⟨0, 0, false, .row 29 [.int .i64, .int .i64, .int .i64, .int .u64] []⟩, ⟨1, 0, false, .nst 24 [.c (.int .i64), .s 29 [.int .i64, .int .i64, .int .i64, .int .u64]] []⟩, ⟨2, 0, false, .row 41 [.int .i64, .int .i64, .int .i64] []⟩] xmy
theorem xCy : xbc Tryz.prog K48 := xaw xaC xCz (n := 9) rfl rfl fun us x h => by
 unfold xmy at h
 split at h
 ·cases h; exact ⟨some (xeY _ _ _ _ _ _), xsj _ _ _ _ _ _, fun h => h⟩
 ·cases h
theorem xsi (x_Gap_Ship x_Gap_Item : Int) (x_Sent x_On : Bool) (o_Kind o_Ship o_Item : Int) : xau Tryz.prog 0 (xa2 Tryz.prog K48 xcU 9 62 [.agg [.int .i64 x_Gap_Ship, .int .i64 x_Gap_Item, .bool x_Sent, .bool x_On], .agg [.int .i64 o_Kind, .int .i64 o_Ship, .int .i64 o_Item]] ⟨[], 0⟩) = some ⟨none, [], 0, [], .bool (xgk x_Gap_Ship x_Gap_Item x_Sent x_On o_Kind o_Ship o_Item)⟩ := by kernel_rfl
noncomputable def xmx : List U → Option Eff
 | [.i x_Gap_Ship, .i x_Gap_Item, .b x_Sent, .b x_On, .i o_Kind, .i o_Ship, .i o_Item] => some ⟨none, [], 0, [], .bool (xgk x_Gap_Ship x_Gap_Item x_Sent x_On o_Kind o_Ship o_Item)⟩
 | _ => Option.none
noncomputable def K49 : Con := ext Tryz.prog K48 62 [.agg [.int .i64 0, .int .i64 0, .bool false, .bool false], .agg [.int .i64 0, .int .i64 0, .int .i64 0]] [] xmx
theorem xCx : xbc Tryz.prog K49 := xaw xaC xCy (n := 9) rfl rfl fun us x h => by
 unfold xmx at h
 split at h
 ·cases h; exact ⟨none, xsi _ _ _ _ _ _ _, fun _ => trivial⟩
 ·cases h
theorem xoU (a_Kind a_Ship a_Item b_Kind b_Ship b_Item : Int) : xau Tryz.prog 0 (xa2 Tryz.prog K49 xcU 9 61 [.agg [.int .i64 a_Kind, .int .i64 a_Ship, .int .i64 a_Item], .agg [.int .i64 b_Kind, .int .i64 b_Ship, .int .i64 b_Item]] ⟨[], 0⟩) = some ⟨none, [], 0, [], .bool (xdB a_Kind a_Ship a_Item b_Kind b_Ship b_Item)⟩ := by kernel_rfl
noncomputable def xjI : List U → Option Eff
 | [.i a_Kind, .i a_Ship, .i a_Item, .i b_Kind, .i b_Ship, .i b_Item] => some ⟨none, [], 0, [], .bool (xdB a_Kind a_Ship a_Item b_Kind b_Ship b_Item)⟩
 | _ => Option.none
noncomputable def K50 : Con := ext Tryz.prog K49 61 [.agg [.int .i64 0, .int .i64 0, .int .i64 0], .agg [.int .i64 0, .int .i64 0, .int .i64 0]] [] xjI
theorem xCw : xbc Tryz.prog K50 := xaw xaC xCx (n := 9) rfl rfl fun us x h => by
 unfold xjI at h
 split at h
 ·cases h; exact ⟨none, xoU _ _ _ _ _ _, fun _ => trivial⟩
 ·cases h
theorem xmw (list omissions : List (List Int)) : xau Tryz.prog 2 (xa2 Tryz.prog K50 xcU 9 26 [.sl 0, .sl 1] ⟨[⟨0, 2, false, .row 105 [.int .i64, .int .i64, .bool, .bool] list⟩, ⟨1, 2, false, .row 80 [.int .i64, .int .i64, .int .i64] omissions⟩], 2⟩) = some ⟨some (xcP list omissions), [], 0, [], .bool (xdr list omissions)⟩ := by kernel_rfl
noncomputable def xhQ : List U → Option Eff
 | [.r list, .r omissions] => some ⟨some (xcP list omissions), [], 0, [], .bool (xdr list omissions)⟩
 | _ => Option.none
noncomputable def K51 : Con := ext Tryz.prog K50 26 [.sl 0, .sl 1] [⟨0, 0, false, .row 105 [.int .i64, .int .i64, .bool, .bool] []⟩, ⟨1, 0, false, .row 80 [.int .i64, .int .i64, .int .i64] []⟩] xhQ
theorem xCv : xbc Tryz.prog K51 := xaw xaC xCw (n := 9) rfl rfl fun us x h => by
 unfold xhQ at h
 split at h
 ·cases h; exact ⟨some (xcP _ _), xmw _ _, fun h => h⟩
 ·cases h
theorem xpP (a b : List (List Int)) : xau Tryz.prog 2 (xa2 Tryz.prog K51 xcU 9 27 [.sl 0, .sl 1] ⟨[⟨0, 2, false, .row 80 [.int .i64, .int .i64, .int .i64] a⟩, ⟨1, 2, false, .row 80 [.int .i64, .int .i64, .int .i64] b⟩], 2⟩) = some ⟨some (xhk a b), [], 0, [], .bool (xmz a b)⟩ := by kernel_rfl
noncomputable def xkd : List U → Option Eff
 | [.r a, .r b] => some ⟨some (xhk a b), [], 0, [], .bool (xmz a b)⟩
 | _ => Option.none
noncomputable def K52 : Con := ext Tryz.prog K51 27 [.sl 0, .sl 1] [⟨0, 0, false, .row 80 [.int .i64, .int .i64, .int .i64] []⟩, ⟨1, 0, false, .row 80 [.int .i64, .int .i64, .int .i64] []⟩] xkd
theorem xCu : xbc Tryz.prog K52 := xaw xaC xCv (n := 9) rfl rfl fun us x h => by
 unfold xkd at h
 split at h
 ·cases h; exact ⟨some (xhk _ _), xpP _ _, fun h => h⟩
 ·cases h
end Go.Proofs.YtikhnofbbcmpeaaGreat
set_option maxRecDepth 100000
set_option linter.unusedVariables false
namespace Go.Proofs.YtikhnofbbcmpeaaGreat
open Go Go.Sy
noncomputable def xbI (office_Owner time delay : Int) (office_Lines ships chances : List (List Int)) (y0 : List U) : List (List Int) :=
 cutV (xam office_Owner time delay office_Lines ships chances)
 (xat (↑(xam office_Owner time delay office_Lines ships chances).length : Int) none (some (gi y0 1))).snd.fst
 (xat (↑(xam office_Owner time delay office_Lines ships chances).length : Int) none (some (gi y0 1))).snd.snd
noncomputable def xcB (office_Owner time delay : Int) (office_Lines ships chances : List (List Int)) (y0 : List U) : List (List Int) :=
 cutV (xam office_Owner time delay office_Lines ships chances)
 (xat (↑(xam office_Owner time delay office_Lines ships chances).length : Int) (some (IntKind.i64.wrap (gi y0 1 + (1 : Int)))) none).snd.fst
 (xat (↑(xam office_Owner time delay office_Lines ships chances).length : Int) (some (IntKind.i64.wrap (gi y0 1 + (1 : Int)))) none).snd.snd
noncomputable def xbF (office_Owner time delay : Int) (office_Lines ships chances : List (List Int)) : List U :=
 [.b (xdX && xdr (xeJ office_Owner time delay office_Lines ships chances) (xam office_Owner time delay office_Lines ships chances)), .i ((0 : Int))]
noncomputable def xaN (office_Owner time delay : Int) (office_Lines ships chances : List (List Int)) (y0 : List U) : Option (Nat × List U) :=
 (bif decide (gi y0 1 < (↑(xam office_Owner time delay office_Lines ships chances).length : Int)) then xab (((0 : Int) ≤ gi y0 1) ∧ (gi y0 1 ≤ (↑(xam office_Owner time delay office_Lines ships chances).length : Int))) (xab ((((↑(loN (xat (↑(xam office_Owner time delay office_Lines ships chances).length : Int) none (some (gi y0 1))).snd.fst) : Int) ≤
 (xat (↑(xam office_Owner time delay office_Lines ships chances).length : Int) none (some (gi y0 1))).snd.snd) ∧ ((xat (↑(xam office_Owner time delay office_Lines ships chances).length : Int) none (some (gi y0 1))).snd.snd ≤
 (↑(xam office_Owner time delay office_Lines ships chances).length : Int))) ∧ (xbf 24 (0 + ((xbI office_Owner time delay office_Lines ships chances y0)).length))) (xab (((0 : Int) ≤ IntKind.i64.wrap (gi y0 1 + (1 : Int))) ∧ (IntKind.i64.wrap (gi y0 1 + (1 : Int)) ≤ (↑(xam office_Owner time delay office_Lines ships chances).length : Int))) (xab ((((↑(loN (xat (↑(xam office_Owner time delay office_Lines ships chances).length : Int) (some (IntKind.i64.wrap (gi y0 1 + (1 : Int)))) none).snd.fst) : Int) ≤
 (xat (↑(xam office_Owner time delay office_Lines ships chances).length : Int) (some (IntKind.i64.wrap (gi y0 1 + (1 : Int)))) none).snd.snd) ∧ ((xat (↑(xam office_Owner time delay office_Lines ships chances).length : Int) (some (IntKind.i64.wrap (gi y0 1 + (1 : Int)))) none).snd.snd ≤
 (↑(xam office_Owner time delay office_Lines ships chances).length : Int))) ∧ (xbf 24 (([] ++ (xbI office_Owner time delay office_Lines ships chances y0)).length + ((xcB office_Owner time delay office_Lines ships chances y0)).length))) (xab ((gb y0 0 = true) → (xcP (xeJ office_Owner time delay office_Lines ships chances) ([] ++ (xbI office_Owner time delay office_Lines ships chances y0) ++ (xcB office_Owner time delay office_Lines ships chances y0)))) (some (0, [.b (gb y0 0 && !xdr (xeJ office_Owner time delay office_Lines ships chances) ([] ++ (xbI office_Owner time delay office_Lines ships chances y0) ++ (xcB office_Owner time delay office_Lines ships chances y0))), .i (IntKind.i64.wrap (gi y0 1 + (1 : Int)))])))))) else some (2, [.b (gb y0 0), .i (gi y0 1)]))
noncomputable def xid (office_Owner time delay : Int) (office_Lines ships chances : List (List Int)) : Nat × List U := xan (xaN office_Owner time delay office_Lines ships chances) (xbF office_Owner time delay office_Lines ships chances)
noncomputable def xbR (office_Owner time delay : Int) (office_Lines ships chances : List (List Int)) : Bool :=
 bif !xeI office_Owner office_Lines ships chances then xdX
else
 bif xbB office_Owner time delay office_Lines ships chances != (0 : Int) then
  xdX && xbB office_Owner time delay office_Lines ships chances == (1 : Int) &&
   (↑(xam office_Owner time delay office_Lines ships chances).length : Int) == (0 : Int)
 else gb (xid office_Owner time delay office_Lines ships chances).snd 0
def xbd (office_Owner time delay : Int) (office_Lines ships chances : List (List Int)) : Prop :=
 ((xeg) ∧ ((xfM office_Owner office_Lines ships chances) ∧ (((!xeI office_Owner office_Lines ships chances) = false) → ((xby office_Owner time delay office_Lines ships chances) ∧ (((xbB office_Owner time delay office_Lines ships chances != (0 : Int)) = false) → ((xeY office_Owner time delay office_Lines ships chances) ∧ (((xdX = true) → (xcP (xeJ office_Owner time delay office_Lines ships chances) (xam office_Owner time delay office_Lines ships chances))) ∧ ((xaz (xaN office_Owner time delay office_Lines ships chances) (xbF office_Owner time delay office_Lines ships chances))))))))))
end Go.Proofs.YtikhnofbbcmpeaaGreat
set_option maxRecDepth 100000
set_option linter.unusedVariables false
namespace Go.Proofs.YtikhnofbbcmpeaaGreat
open Go Go.Sy
theorem xhM (office_Owner time delay : Int) (office_Lines ships chances : List (List Int)) : xau Tryz.prog 3 (xa2 Tryz.prog K52 xcU 9 6 [.agg [.int .i64 office_Owner, .sl 0], .sl 1, .sl 2, .int .i64 time, .int .i64 delay] ⟨[⟨0, 3, false, .row 29 [.int .i64, .int .i64, .int .i64, .int .u64] office_Lines⟩, ⟨1, 3, false, .nst 24 [.c (.int .i64), .s 29 [.int .i64, .int .i64, .int .i64, .int .u64]] ships⟩, ⟨2, 3, false, .row 41 [.int .i64, .int .i64, .int .i64] chances⟩], 3⟩) = some ⟨some (xbd office_Owner time delay office_Lines ships chances), [], 0, [], .bool (xbR office_Owner time delay office_Lines ships chances)⟩ := by kernel_rfl
noncomputable def xe8 : List U → Option Eff
 | [.i office_Owner, .i time, .i delay, .r office_Lines, .r ships, .r chances] => some ⟨some (xbd office_Owner time delay office_Lines ships chances), [], 0, [], .bool (xbR office_Owner time delay office_Lines ships chances)⟩
 | _ => Option.none
noncomputable def K53 : Con := ext Tryz.prog K52 6 [.agg [.int .i64 0, .sl 0], .sl 1, .sl 2, .int .i64 0, .int .i64 0] [⟨0, 0, false, .row 29 [.int .i64, .int .i64, .int .i64, .int .u64] []⟩, ⟨1, 0, false, .nst 24 [.c (.int .i64), .s 29 [.int .i64, .int .i64, .int .i64, .int .u64]] []⟩, ⟨2, 0, false, .row 41 [.int .i64, .int .i64, .int .i64] []⟩] xe8
theorem xCt : xbc Tryz.prog K53 := xaw xaC xCu (n := 9) rfl rfl fun us x h => by
 unfold xe8 at h
 split at h
 ·cases h; exact ⟨some (xbd _ _ _ _ _ _), xhM _ _ _ _ _ _, fun h => h⟩
 ·cases h
end Go.Proofs.YtikhnofbbcmpeaaGreat
set_option linter.unusedVariables false
set_option maxRecDepth 100000
namespace Go.Proofs.YtikhnofbbcmpeaaGreat
open Go Go.Sy
def runL {σ : Type} (f : σ → List Int → σ ⊕ (Nat × List U)) : σ → List (List Int) → σ ⊕ (Nat × List U)
 | s, [] => .inl s
 | s, x :: r => match f s x with
  | .inl s' => runL f s' r
  | .inr o => .inr o
def goOn {σ : Type} (mk : σ → List U) : σ ⊕ (Nat × List U) → Option (Nat × List U)
 | .inl s => some (0, mk s)
 | .inr o => some (o.1 + 1, o.2)
def endL {σ : Type} (fin : σ → Nat × List U) : σ ⊕ (Nat × List U) → Nat × List U
 | .inl s => ((fin s).1 + 1, (fin s).2)
 | .inr o => (o.1 + 1, o.2)
theorem xb2 {σ : Type} {step : List U → Option (Nat × List U)} (l : List (List Int)) (mk : Nat → σ → List U) (f : σ → List Int → σ ⊕ (Nat × List U)) (I : Nat → σ → Prop) (fin : σ → Nat × List U) (k0 : Nat)
  (hs : ∀ i s (hi : i < l.length), k0 ≤ i → I i s → step (mk i s) = goOn (mk (i + 1)) (f s l[i]) ∧ ∀ s', f s l[i] = .inl s' → I (i + 1) s')
  (he : ∀ i s, i = max k0 l.length → I i s → step (mk i s) = some ((fin s).1 + 1, (fin s).2)) {s : σ} (h0 : I k0 s) :
  xaz step (mk k0 s) ∧ xan step (mk k0 s) = endL fin (runL f s (l.drop k0)) := by
 have key : ∀ m i s, i + m = l.length → k0 ≤ i → I i s → xhu step (m + 1) (mk i s) = some (endL fin (runL f s (l.drop i))) := by
  intro m
  induction m with
  | zero =>
   intro i s hi hk h
   rw [List.drop_eq_nil_of_le (by omega)]
   exact xjn (he i s (by omega) h)
  | succ m ih =>
   intro i s hi hk h
   obtain ⟨h1, h2⟩ := hs i s (by omega) hk h
   rw [List.drop_eq_getElem_cons (by omega : i < l.length)]
   unfold runL
   cases hf : f s l[i] with
   | inl s' =>
    rw [hf] at h1
    exact xiL h1 (ih (i + 1) s' (by omega) (by omega) (h2 s' hf))
   | inr o =>
    rw [hf] at h1
    unfold xhu
    rw [h1]; rfl
 by_cases hk : k0 ≤ l.length
 ·exact xlX (key (l.length - k0) k0 s (by omega) (Nat.le_refl _) h0)
 ·rw [List.drop_eq_nil_of_le (by omega)]
  exact xlX (xjn (he k0 s (by omega) h0))
theorem xbe {l : List (List Int)} {i : Nat} (hi : i < l.length) : l.getD i [] = l[i] := by rw [List.getD_eq_getElem?_getD, List.getElem?_eq_getElem hi]; rfl
theorem xaS {l : List (List Int)} {i : Nat} (hi : i < l.length) : l.getD (i : Int).toNat [] = l[i] := by rw [Int.toNat_natCast]; exact xbe hi
theorem xdh {i : Nat} (h : i < 9223372036854775807) : IntKind.i64.wrap ((i : Int) + 1) = ((i + 1 : Nat) : Int) := by
 rw [xe6 (by omega)]; rfl
theorem xjl {step : List U → Option (Nat × List U)} {l : List (List Int)} {p : List Int → Bool} (m : Nat) (hs : ∀ i (hi : i < l.length), step [.i 0, .i i] = bif p l[i] then some (1, [.i i]) else some (0, [.i 0, .i ((i + 1 : Nat) : Int)]))
  (he : step [.i 0, .i l.length] = some (m + 2, [.i 0, .i l.length])) {init : List U} (hi : init = [.i 0, .i ((0 : Nat) : Int)]) :
  xaz step init ∧ decide ((bif (xan step init).fst.beq 1 then gi (xan step init).snd 0 else (-1 : Int)) ≥ 0) = l.any p := by
 subst hi
 obtain ⟨h1, h2⟩ := xd1 (step := step) l.length (fun i => p (l.getD i [])) (fun i => [.i 0, .i i]) (fun i => [.i i]) 0 (m + 1) [.i 0, .i l.length]
  (fun i hi => by rw [hs i hi, xbe hi]) he
 refine ⟨h1, ?_⟩
 rcases h2 with ⟨i, hi, hp, _, hg⟩ | ⟨hn, hg⟩
 ·rw [hg]
  have : l.any p = true := List.any_eq_true.2 ⟨l[i], List.getElem_mem hi, by rw [← xbe hi]; exact hp⟩
  rw [this]
  show decide ((bif true then gi [.i (i : Int)] 0 else (-1 : Int)) ≥ 0) = true
  rw [cond_true, gi_z]
  exact decide_eq_true (by omega)
 ·rw [hg]
  have : l.any p = false := List.any_eq_false.2 fun x hx => by
   obtain ⟨i, hi, rfl⟩ := List.getElem_of_mem hx
   have := hn i hi
   simp only [xbe hi] at this
   simp [this]
  rw [this]
  show decide ((bif Nat.beq (m + 1 + 1) 1 then gi [.i 0, .i (l.length : Int)] 0 else (-1 : Int)) ≥ 0) = false
  rfl
def mixD (h x : Int) : Int :=
 bXor IntKind.u64 (IntKind.u64.wrap (bXor IntKind.u64 h (IntKind.u64.wrap x) * 11507291218515648293)) ((IntKind.u64.wrap (bXor IntKind.u64 h (IntKind.u64.wrap x) * 11507291218515648293)).fdiv ((2 : Int) ^ min (Int.toNat (32 : Int)) IntKind.u64.bits))
def digF (l : List Int) : Int := l.foldl mixD (IntKind.u64.wrap (11400714819323198485 + IntKind.u64.wrap l.length))
theorem xdY {σ : Type} (g : σ → List Int → σ) : ∀ (l : List (List Int)) (s : σ), runL (fun s x => .inl (g s x)) s l = .inl (l.foldl g s)
 | [], s => rfl
 | x :: r, s => xdY g r (g s x)
theorem xyS (l : List (List Int)) (hl : l.length ≤ 9223372036854775807) : xed l ∧ xfl l = digF (l.map fun x => x.getD 0 0) := by
 obtain ⟨h1, h2⟩ := xb2 (step := xc2 l) l (fun i (s : Int) => [.i s, .i i]) (fun s x => .inl (mixD s (x.getD 0 0))) (fun _ _ => True) (fun s => (1, [.i s, .i (l.length : Int)])) 0
  (fun i s hi _ _ => ⟨by
   unfold xc2 xkT
   simp only [gi_z, gi_1, dlt hi, xaa (xay hi), xaa (show (0 : Int) ≤ 32 by decide), xdh (show i < 9223372036854775807 by omega), xaS hi]
   rfl, fun _ _ => trivial⟩)
  (fun i s hi _ => by
   have : i = l.length := by omega
   subst this
   unfold xc2
   simp only [gi_z, gi_1, dnlt]) (s := IntKind.u64.wrap (11400714819323198485 + IntKind.u64.wrap l.length)) trivial
 refine ⟨h1, ?_⟩
 unfold xfl xkU
 have hi : xfd l = [.i (IntKind.u64.wrap (11400714819323198485 + IntKind.u64.wrap l.length)), .i ((0 : Nat) : Int)] := rfl
 rw [hi, h2, List.drop_zero, xdY]
 unfold digF
 rw [List.foldl_map, List.length_map]
 rfl
def sumF (owner last t k n : Int) : Int := digF [owner, IntKind.i64.wrap last, t, k, n]
theorem xvC (owner last t k n s : Int) : xbJ owner last t k n s ∧ xb4 owner last t k n s = sumF owner last t k n := xyS _ (by simp)
def clsF (k : Int) : Int := if k = 1 then 1 else if k = 2 ∨ k = 3 then 2 else if k = 4 ∨ k = 5 then 3 else 0
theorem bne {a b : Int} (h : ¬ a = b) : (a == b) = false := beq_eq_false_iff_ne.2 h
theorem xpt (k : Int) : xb6 k = clsF k := by
 unfold xb6 xjR xjQ clsF
 by_cases h1 : k = 1
 ·subst h1; rfl
 by_cases h2 : k = 2
 ·subst h2; rfl
 by_cases h3 : k = 3
 ·subst h3; rfl
 by_cases h4 : k = 4
 ·subst h4; rfl
 by_cases h5 : k = 5
 ·subst h5; rfl
 rw [bne h1, bne h2, bne h3, bne h4, bne h5, if_neg h1, if_neg (by simp [h2, h3]), if_neg (by simp [h4, h5])]
 rfl
def tmF (t : Int) : Bool := decide (0 ≤ t) && decide (t ≤ 10000000)
def itF (n : Int) : Bool := decide (1 ≤ n) && decide (n ≤ 10000)
def lnF (t k n : Int) : Bool := if clsF k = 0 then false else if clsF k = 3 then tmF t && n == 0 else tmF t && itF n
def ownF (owner k : Int) : Bool := (owner == 0) == (clsF k == 1)
theorem xpA (t : Int) : xav t = tmF t := rfl
theorem xyk (t : Int) : xfj t = itF t := rfl
theorem xx9 (t k n : Int) : xbV t k n = lnF t k n := by
 unfold xbV lnF
 rw [xpt, xpA, xyk]
 by_cases h0 : clsF k = 0
 ·rw [h0]; rfl
 ·by_cases h3 : clsF k = 3
  ·rw [h3]; rfl
  ·rw [bne h0, bne h3, if_neg h0, if_neg h3]; rfl
theorem xAc (o k : Int) : xbq o k = ownF o k := by unfold xbq ownF; rw [xpt]
end Go.Proofs.YtikhnofbbcmpeaaGreat
set_option linter.unusedVariables false
set_option maxRecDepth 100000
namespace Go.Proofs.YtikhnofbbcmpeaaGreat
open Go Go.Sy
abbrev col (x : List Int) (j : Nat) : Int := x.getD j 0
def vldF (o : Int) : Bool → Int → Int → List (List Int) → Bool
 | _, _, _, [] => true
 | off, last, now, x :: r =>
  if (!lnF (col x 0) (col x 1) (col x 2) || !ownF o (col x 1) || decide (col x 0 < now) || col x 3 != sumF o last (col x 0) (col x 1) (col x 2)) = true then false
  else if clsF (col x 1) = 3 then (if off = (col x 1 == 4) then false else vldF o (!off) (col x 3) (col x 0) r)
  else vldF o off (col x 3) (col x 0) r
def valF (o : Int) (l : List (List Int)) : Bool := decide (0 ≤ o) && decide (o ≤ 8) && decide (l.length ≤ 200) && vldF o false 0 0 l
def xnp (o : Int) (s : Bool × Int × Int) (x : List Int) : (Bool × Int × Int) ⊕ (Nat × List U) :=
 if (!lnF (col x 0) (col x 1) (col x 2) || !ownF o (col x 1) || decide (col x 0 < s.2.2) || col x 3 != sumF o s.2.1 (col x 0) (col x 1) (col x 2)) = true then .inr (0, [])
 else if clsF (col x 1) = 3 then (if s.1 = (col x 1 == 4) then .inr (1, []) else .inl (!s.1, col x 3, col x 0))
 else .inl (s.1, col x 3, col x 0)
theorem xpz (o : Int) (n : Int) : ∀ (l : List (List Int)) (s : Bool × Int × Int),
  (bif (endL (fun s : Bool × Int × Int => (4, [.b false, .b s.1, .i s.2.1, .i s.2.2, .i n])) (runL (xnp o) s l)).1.beq 1 then false else bif (endL (fun s : Bool × Int × Int => (4, [.b false, .b s.1, .i s.2.1, .i s.2.2, .i n])) (runL (xnp o) s l)).1.beq 2 then false else true) = vldF o s.1 s.2.1 s.2.2 l
 | [], s => rfl
 | x :: r, s => by
  unfold runL vldF
  by_cases h1 : (!lnF (col x 0) (col x 1) (col x 2) || !ownF o (col x 1) || decide (col x 0 < s.2.2) || col x 3 != sumF o s.2.1 (col x 0) (col x 1) (col x 2)) = true
  ·have e : xnp o s x = .inr (0, []) := by unfold xnp; rw [if_pos h1]
   rw [e, if_pos h1]; rfl
  ·rw [if_neg h1]
   by_cases h2 : clsF (col x 1) = 3
   ·rw [if_pos h2]
    by_cases h3 : s.1 = (col x 1 == 4)
    ·have e : xnp o s x = .inr (1, []) := by unfold xnp; rw [if_neg h1, if_pos h2, if_pos h3]
     rw [e, if_pos h3]; rfl
    ·have e : xnp o s x = .inl (!s.1, col x 3, col x 0) := by unfold xnp; rw [if_neg h1, if_pos h2, if_neg h3]
     rw [e, if_neg h3]
     exact xpz o n r _
   ·have e : xnp o s x = .inl (s.1, col x 3, col x 0) := by unfold xnp; rw [if_neg h1, if_neg h2]
    rw [e, if_neg h2]
    exact xpz o n r _
theorem xwv (o : Int) (l : List (List Int)) (hl : l.length ≤ 9223372036854775807) : xaz (xbT o l) (xeR o l) ∧ xgR o l = endL (fun s : Bool × Int × Int => (4, [.b false, .b s.1, .i s.2.1, .i s.2.2, .i l.length])) (runL (xnp o) (false, 0, 0) l) := by
 have h := xb2 (step := xbT o l) l (fun i (s : Bool × Int × Int) => [.b false, .b s.1, .i s.2.1, .i s.2.2, .i i]) (xnp o) (fun _ _ => True) (fun s => (4, [.b false, .b s.1, .i s.2.1, .i s.2.2, .i l.length])) 0
  (fun i s hi _ _ => ⟨by
   unfold xbT xjS
   simp only [gi_4, gi_3, gi_2, gi_1, gi_z, gb_1, gb_z, dlt hi, xaa (xay hi), xdh (show i < 9223372036854775807 by omega), xaS hi, xx9, xAc, (xvC _ _ _ _ _ _).2, xpt]
   rw [xaa (fun _ => (xvC _ _ _ _ _ _).1)]
   generalize l[i] = x
   unfold xnp
   cases h1 : (!lnF (col x 0) (col x 1) (col x 2) || !ownF o (col x 1) || decide (col x 0 < s.2.2) || col x 3 != sumF o s.2.1 (col x 0) (col x 1) (col x 2)) with
   | true => rw [if_pos rfl]; rfl
   | false =>
    rw [if_neg (by decide), cond_false]
    by_cases h2 : clsF (col x 1) = 3
    ·rw [if_pos h2, h2]
     by_cases h3 : s.1 = (col x 1 == 4)
     ·rw [if_pos h3, h3]; simp only [beq_self_eq_true, cond_true]; rfl
     ·rw [if_neg h3]
      have : (s.1 == (col x 1 == 4)) = false := by simpa using h3
      rw [this]; rfl
    ·rw [if_neg h2]
     rw [bne h2]; rfl, fun _ _ => trivial⟩)
  (fun i s hi _ => by
   have : i = l.length := by omega
   subst this
   unfold xbT
   simp only [gi_4, gi_3, gi_2, gi_1, gi_z, gb_1, gb_z, dnlt]) (s := (false, 0, 0)) trivial
 rw [List.drop_zero] at h
 exact h
theorem xfF (o : Int) (l : List (List Int)) (hl : l.length ≤ 9223372036854775807) : xaF o l ∧ xae o l = valF o l := by
 obtain ⟨h1, h2⟩ := xwv o l hl
 refine ⟨fun _ => h1, ?_⟩
 unfold xae valF
 rw [h2]
 have := xpz o l.length l (false, 0, 0)
 rw [this]
 by_cases h0 : 0 ≤ o
 ·by_cases h8 : o ≤ 8
  ·by_cases h200 : l.length ≤ 200
   ·simp [h0, h8, h200, show ¬ o < 0 by omega, show ¬ o > 8 by omega, show ¬ ((l.length : Int) > 200) by omega]
   ·simp [h0, h8, h200, show ((l.length : Int) > 200) by omega]
  ·simp [h8, show o > 8 by omega]
 ·simp [h0, show o < 0 by omega]
def onF (t : Int) : Bool → List (List Int) → Bool
 | b, [] => b
 | b, x :: r => if col x 0 > t then b else onF t (if clsF (col x 1) = 3 then col x 1 == 5 else b) r
def xmD (t : Int) (s : Bool) (x : List Int) : Bool ⊕ (Nat × List U) := if col x 0 > t then .inr (2, [.b s]) else .inl (if clsF (col x 1) = 3 then col x 1 == 5 else s)
theorem xru (t n : Int) : ∀ (l : List (List Int)) (s : Bool),
  (bif (endL (fun s : Bool => (3, [.i n, .b s])) (runL (xmD t) s l)).1.beq 3 then gb (endL (fun s : Bool => (3, [.i n, .b s])) (runL (xmD t) s l)).2 0 else gb (endL (fun s : Bool => (3, [.i n, .b s])) (runL (xmD t) s l)).2 1) = onF t s l
 | [], s => rfl
 | x :: r, s => by
  unfold runL onF
  by_cases h : col x 0 > t
  ·have e : xmD t s x = .inr (2, [.b s]) := by unfold xmD; rw [if_pos h]
   rw [e, if_pos h]; rfl
  ·have e : xmD t s x = .inl (if clsF (col x 1) = 3 then col x 1 == 5 else s) := by unfold xmD; rw [if_neg h]
   rw [e, if_neg h]
   exact xru t n r _
theorem xxQ (o t : Int) (l : List (List Int)) (hl : l.length ≤ 9223372036854775807) : xcC o t l ∧ xaI o t l = onF t true l := by
 obtain ⟨h1, h2⟩ := xb2 (step := xdw o t l) l (fun i (s : Bool) => [.i i, .b s]) (xmD t) (fun _ _ => True) (fun s => (3, [.i l.length, .b s])) 0
  (fun i s hi _ _ => ⟨by
   unfold xdw xmD
   simp only [gi_z, gb_1, gb_z, dlt hi, xaa (xay hi), xdh (show i < 9223372036854775807 by omega), xaS hi, xpt]
   generalize l[i] = x
   by_cases h1 : col x 0 > t
   ·rw [if_pos h1, decide_eq_true h1]; rfl
   ·rw [if_neg h1, decide_eq_false h1]
    by_cases h2 : clsF (col x 1) = 3
    ·rw [if_pos h2, h2]; rfl
    ·rw [if_neg h2, bne h2]; rfl, fun _ _ => trivial⟩)
  (fun i s hi _ => by
   have : i = l.length := by omega
   subst this
   unfold xdw
   simp only [gi_z, gb_1, gb_z, dnlt]) (s := true) trivial
 rw [List.drop_zero] at h2
 refine ⟨h1, ?_⟩
 unfold xaI xg5
 have hi : xfS o t l = [.i ((0 : Nat) : Int), .b true] := rfl
 rw [hi, h2]
 exact xru t l.length l true
def xnK (j : Nat) (d : Int) (l : List (List Int)) : Int := match l.getLast? with | some x => col x j | none => d
theorem xuY (o : Int) (l : List (List Int)) (hl : l.length ≤ 9223372036854775807) : xbO o l ∧ xa5 o l = xnK 0 (-1) l ∧ xa4 o l = xnK 3 0 l := by
 unfold xbO xa5 xky xa4 xkx xnK
 by_cases h : l.length = 0
 ·have : l = [] := List.eq_nil_of_length_eq_zero h
  subst this
  refine ⟨fun h => ?_, rfl, rfl⟩
  simp at h
 ·have hw : IntKind.i64.wrap ((l.length : Int) - 1) = ((l.length - 1 : Nat) : Int) := by rw [xe6 (by omega)]; omega
  have hr : inR (IntKind.i64.wrap ((l.length : Int) - 1)) l := by rw [hw]; exact xay (by omega)
  have hd : decide ((l.length : Int) > 0) = true := decide_eq_true (by omega)
  have hg : l.getLast? = some l[l.length - 1] := by rw [List.getLast?_eq_getElem?, List.getElem?_eq_getElem (by omega)]
  refine ⟨fun _ => ⟨hr, hr, hr, hr, hr, hr⟩, ?_, ?_⟩
  ·rw [hd, cond_true, hw, xaS (by omega), hg]
  ·rw [hd, cond_true, hw, xaS (by omega), hg]
def xuC (n t : Int) (l : List (List Int)) : Bool := l.any fun x => col x 2 == n && (decide (t < 0) || col x 0 == t)
theorem xr8 (o n t : Int) (l : List (List Int)) (hl : l.length ≤ 9223372036854775807) : xcg o n t l ∧ xaM o n t l = xuC n t l :=
 xjl (step := xc0 o n t l) (p := fun x => col x 2 == n && (decide (t < 0) || col x 0 == t)) 1
  (fun i hi => by
   unfold xc0
   simp only [gi_z, gi_1, dlt hi, xaa (xay hi), xdh (show i < 9223372036854775807 by omega), xaS hi])
  (by unfold xc0; simp only [gi_z, gi_1, dnlt]) rfl
def badC (x : List Int) : Bool := !tmF (col x 2) || !itF (col x 1) || decide (col x 0 < 1) || decide (col x 0 > 8)
def chF (l : List (List Int)) : Bool := decide (l.length ≤ 200) && !l.any badC
theorem xi8 (l : List (List Int)) (hl : l.length ≤ 9223372036854775807) : xbx l ∧ xaA l = chF l := by
 obtain ⟨h1, h2⟩ := xjl (step := xb7 l) (l := l) (p := badC) 1
  (fun i hi => by
   unfold xb7
   simp only [gi_z, gi_1, dlt hi, xaa (xay hi), xdh (show i < 9223372036854775807 by omega), xaS hi, xpA, xyk]
   rfl)
  (by unfold xb7; simp only [gi_z, gi_1, dnlt]) (init := xd2 l) rfl
 refine ⟨fun _ => h1, ?_⟩
 unfold xaA chF xfT
 rw [h2]
 congr 1
 exact decide_eq_decide.2 (by omega)
def hasN (n : Int) (l : List (List Int)) : Bool := l.any fun x => n == col x 0
theorem xvf (n : Int) (l : List (List Int)) (hl : l.length ≤ 9223372036854775807) : xa8 n l ∧ xbH n l = hasN n l :=
 xjl (step := xa9 n l) (p := fun x => n == col x 0) 1
  (fun i hi => by
   unfold xa9
   simp only [gi_z, gi_1, dlt hi, xaa (xay hi), xdh (show i < 9223372036854775807 by omega), xaS hi])
  (by unfold xa9; simp only [gi_z, gi_1, dnlt]) rfl
end Go.Proofs.YtikhnofbbcmpeaaGreat
set_option linter.unusedVariables false
set_option maxRecDepth 100000
namespace Go.Proofs.YtikhnofbbcmpeaaGreat
open Go Go.Sy
theorem xtr {α : Type} {lt : α → α → Prop} (irr : ∀ a, ¬ lt a a) (asym : ∀ a b, lt a b → ¬ lt b a) : ∀ {l l' : List α}, l.Pairwise lt → l'.Pairwise lt → (∀ x, x ∈ l ↔ x ∈ l') → l = l'
 | [], [], _, _, _ => rfl
 | [], y :: r, _, _, h => by have := (h y).2 List.mem_cons_self; cases this
 | x :: r, [], _, _, h => by have := (h x).1 List.mem_cons_self; cases this
 | x :: r, y :: r', h1, h2, h => by
  obtain ⟨a1, a2⟩ := List.pairwise_cons.1 h1
  obtain ⟨b1, b2⟩ := List.pairwise_cons.1 h2
  have e : x = y := by
   rcases List.mem_cons.1 ((h x).1 List.mem_cons_self) with e | hx
   ·exact e
   ·rcases List.mem_cons.1 ((h y).2 List.mem_cons_self) with e | hy
    ·exact e.symm
    ·exact absurd (b1 x hx) (asym _ _ (a1 y hy))
  subst e
  rw [xtr irr asym a2 b2 fun z => ⟨fun hz => ?_, fun hz => ?_⟩]
  ·rcases List.mem_cons.1 ((h z).1 (List.mem_cons_of_mem _ hz)) with e | h'
   ·exact absurd (a1 z hz) (e ▸ irr z)
   ·exact h'
  ·rcases List.mem_cons.1 ((h z).2 (List.mem_cons_of_mem _ hz)) with e | h'
   ·exact absurd (b1 z hz) (e ▸ irr z)
   ·exact h'
theorem xyT : ∀ (l : List Int) (p : Option Int), l.Pairwise (· ≤ ·) → (∀ y, p = some y → ∀ x ∈ l, y ≤ x) → (dd p l).Pairwise (· < ·) ∧ (∀ y, p = some y → ∀ x ∈ dd p l, y < x) ∧ ∀ x, x ∈ dd p l ↔ x ∈ l ∧ p ≠ some x
 | [], p, _, _ => ⟨List.Pairwise.nil, (fun y _ x hx => by cases hx), fun x => ⟨(fun h => by cases h), fun h => by cases h.1⟩⟩
 | x :: r, p, h, hp => by
  obtain ⟨a1, a2⟩ := List.pairwise_cons.1 h
  obtain ⟨b1, b2, b3⟩ := xyT r (some x) a2 (fun y hy z hz => by cases hy; exact a1 z hz)
  unfold dd
  by_cases e : p = some x
  ·rw [if_pos e]
   refine ⟨b1, fun y hy z hz => ?_, fun z => ?_⟩
   ·rw [e] at hy; cases hy
    exact b2 x rfl z hz
   ·rw [b3, e]
    refine ⟨fun h => ⟨List.mem_cons_of_mem _ h.1, h.2⟩, fun h => ⟨?_, h.2⟩⟩
    rcases List.mem_cons.1 h.1 with e' | h'
    ·exact absurd (by rw [e']) h.2
    ·exact h'
  ·rw [if_neg e]
   refine ⟨List.pairwise_cons.2 ⟨fun z hz => b2 x rfl z hz, b1⟩, fun y hy z hz => ?_, fun z => ?_⟩
   ·have hyx : y < x := by
     have h1 := hp y hy x List.mem_cons_self
     have h2 : y ≠ x := fun e' => e (by rw [hy, e'])
     omega
    rcases List.mem_cons.1 hz with e' | hz
    ·omega
    ·have := b2 x rfl z hz
     omega
   ·constructor
    ·intro hz
     rcases List.mem_cons.1 hz with e' | hz
     ·subst e'; exact ⟨List.mem_cons_self, e⟩
     ·refine ⟨List.mem_cons_of_mem _ ((b3 z).1 hz).1, fun e' => ?_⟩
      have h1 := hp z e' x List.mem_cons_self
      have h2 := b2 x rfl z hz
      omega
    ·rintro ⟨h1, h2⟩
     by_cases e' : z = x
     ·rw [e']; exact List.mem_cons_self
     ·refine List.mem_cons_of_mem _ ((b3 z).2 ⟨?_, fun h => e' (by cases h; rfl)⟩)
      rcases List.mem_cons.1 h1 with h | h
      ·exact absurd h e'
      ·exact h
def xpZ (l : List Int) : List Int := dd none (xfD leI l)
theorem xxO (l : List Int) (x : Int) : x ∈ xpZ l ↔ x ∈ l := by
 have := (xyT _ none ((xgI xp8 xp7 l).imp fun h => by simpa [leI] using h) (fun y hy => by cases hy)).2.2 x
 unfold xpZ
 rw [this, xmQ]
 simp
theorem xtB (l : List Int) : (xpZ l).length ≤ l.length := by
 unfold xpZ
 refine Nat.le_trans (xna _ _) ?_
 rw [xeO]; exact Nat.le_refl _
theorem xxN (s : List (List Int)) : List.take (xeV (xbo s)).toNat (xdy (xbo s)) = xaG (xpZ (nums s)) ∧ 0 ≤ xeV (xbo s) ∧ xeV (xbo s) ≤ ((xdy (xbo s)).length : Int) := by
 have e1 : nums (xbo s) = xfD leI (nums s) := by unfold xbo; rw [xhr]
 have hle := xna (xfD leI (nums s)) none
 unfold xeV xdy
 rw [e1]
 refine ⟨?_, by omega, ?_⟩
 ·unfold xaG xpZ
  rw [Int.toNat_natCast, List.map_append, List.take_left' (by simp)]
 ·simp [xaG]
  omega
theorem xgJ {α β : Type} (p : α → Bool) (g : α → β) : ∀ (l : List α) (s : List β), l.foldl (fun s x => if p x = true then s ++ [g x] else s) s = s ++ (l.filter p).map g
 | [], s => by simp
 | x :: r, s => by
  rw [List.foldl_cons, xgJ p g r]
  by_cases h : p x = true
  ·rw [if_pos h, List.filter_cons_of_pos h]; simp
  ·rw [if_neg h, List.filter_cons_of_neg h]
theorem xrA {α : Type} (c : Prop) [Decidable c] (s : List α) (a : α) : (if c then s ++ [a] else s).length ≤ s.length + 1 := by
 split
 ·simp
 ·omega
def xka (t : Int) : List (List Int) → List Int
 | [] => []
 | x :: r => if col x 0 > t then [] else if col x 1 = 3 then col x 2 :: xka t r else xka t r
theorem xj9 (t : Int) : ∀ l, (xka t l).length ≤ l.length
 | [] => Nat.le_refl _
 | x :: r => by
  have := xj9 t r
  unfold xka
  split
  ·exact Nat.zero_le _
  ·split <;> simp <;> omega
def xol (t : Int) (s : List (List Int)) (x : List Int) : List (List Int) ⊕ (Nat × List U) := if col x 0 > t then .inr (2, [.r s]) else .inl (if col x 1 = 3 then s ++ [[col x 2]] else s)
theorem xrl (t n : Int) : ∀ (l : List (List Int)) (s : List (List Int)),
  (∃ b, endL (fun s : List (List Int) => (3, [.i n, .r s])) (runL (xol t) s l) = if b = true then (3, [.r (s ++ xaG (xka t l))]) else (4, [.i n, .r (s ++ xaG (xka t l))]))
 | [], s => ⟨false, by simp [runL, endL, xka, xaG]⟩
 | x :: r, s => by
  unfold runL xka
  by_cases h : col x 0 > t
  ·have e : xol t s x = .inr (2, [.r s]) := by unfold xol; rw [if_pos h]
   exact ⟨true, by rw [e, if_pos h]; simp [endL, xaG]⟩
  ·have e : xol t s x = .inl (if col x 1 = 3 then s ++ [[col x 2]] else s) := by unfold xol; rw [if_neg h]
   rw [e, if_neg h]
   obtain ⟨b, hb⟩ := xrl t n r (if col x 1 = 3 then s ++ [[col x 2]] else s)
   refine ⟨b, ?_⟩
   simp only [hb]
   by_cases h3 : col x 1 = 3
   ·simp only [if_pos h3, xaG, List.map_cons, List.append_assoc, List.cons_append, List.nil_append]
   ·simp only [if_neg h3]
theorem xvD (o t : Int) (l : List (List Int)) (hl : l.length ≤ 1000000) : xbS o t l ∧ xcH o t l = xaG (xpZ (xka t l)) := by
 obtain ⟨h1, h2⟩ := xb2 (step := xcG o t l) l (fun i (s : List (List Int)) => [.i i, .r s]) (xol t) (fun i s => s.length ≤ i) (fun s => (3, [.i l.length, .r s])) 0
  (fun i s hi _ hI => by
   have hfit : xbf 8 (s.length + [[col l[i] 2]].length) := by unfold xbf maxLen; simp only [List.length_cons, List.length_nil]; omega
   refine ⟨?_, fun s' hs' => ?_⟩
   ·unfold xcG xol
    simp only [gi_z, gr_1, gr_z, dlt hi, xaa (xay hi), xdh (show i < 9223372036854775807 by omega), xaS hi]
    rw [xaa hfit]
    generalize l[i] = x
    by_cases h1 : col x 0 > t
    ·rw [if_pos h1, decide_eq_true h1]; rfl
    ·rw [if_neg h1, decide_eq_false h1]
     by_cases h2 : x.getD 1 0 = 3
     ·rw [if_pos h2, h2]; rfl
     ·rw [if_neg h2, bne h2]; rfl
   ·unfold xol at hs'
    split at hs'
    ·cases hs'
    ·cases hs'
     exact Nat.le_trans (xrA _ _ _) (by omega))
  (fun i s hi _ => by
   have : i = l.length := by omega
   subst this
   unfold xcG
   simp only [gi_z, gr_1, gr_z, dnlt]) (s := []) (Nat.zero_le _)
 rw [List.drop_zero] at h2
 obtain ⟨b, hb⟩ := xrl t l.length l []
 have hg : xaH o t l = if b = true then (3, [.r (xaG (xka t l))]) else (4, [.i l.length, .r (xaG (xka t l))]) := by
  unfold xaH
  have hi : xeP o t l = [.i ((0 : Nat) : Int), .r []] := rfl
  rw [hi, h2, hb, List.nil_append]
 have hlen : (xaG (xka t l)).length < 4611686018427387904 := by
  have := xj9 t l
  simp [xaG]; omega
 obtain ⟨o1, o2, o3⟩ := xxN (xaG (xka t l))
 rw [xhr] at o1
 unfold xbS xcH xjL
 rw [hg]
 cases b with
 | true =>
  rw [if_pos rfl]
  exact ⟨⟨h1, fun _ => ⟨hlen, o2, o3⟩, fun h => by cases h⟩, o1⟩
 | false =>
  rw [if_neg (by decide)]
  exact ⟨⟨h1, (fun h => by cases h), fun _ => ⟨hlen, o2, o3⟩⟩, o1⟩
def xpH (t : Int) (l : List (List Int)) : List Int := xpZ (xka t l)
theorem xzZ (o t : Int) (l : List (List Int)) (hl : l.length ≤ 9223372036854775807) : xcy o t l ∧ xcI o t l = (if (valF o l && tmF t) = true then xaG (xpH t l) else []) ∧ xdj o t l = if (valF o l && tmF t) = true then 0 else 1 := by
 obtain ⟨v1, v2⟩ := xfF o l hl
 unfold xcy xcI xdj
 rw [v2, xpA]
 cases hv : valF o l with
 | false => exact ⟨⟨v1, fun h => by cases h⟩, rfl, rfl⟩
 | true =>
  have h200 : l.length ≤ 200 := by
   unfold valF at hv
   simp only [Bool.and_eq_true, decide_eq_true_eq] at hv
   exact hv.1.2
  obtain ⟨s1, s2⟩ := xvD o t l (by omega)
  cases ht : tmF t with
  | false => exact ⟨⟨v1, fun h => by cases h⟩, rfl, rfl⟩
  | true => exact ⟨⟨v1, fun _ => s1⟩, s2, rfl⟩
theorem xxm {o : Int} {l : List (List Int)} (h : valF o l = true) : l.length ≤ 200 ∧ 0 ≤ o ∧ o ≤ 8 := by
 unfold valF at h
 simp only [Bool.and_eq_true, decide_eq_true_eq] at h
 exact ⟨h.1.2, h.1.1.1, h.1.1.2⟩
def coP (so t : Int) (office ship : List (List Int)) (c : List Int) : Bool := col c 0 == so && decide (col c 2 ≤ t) && xuC (col c 1) (col c 2) office && onF (col c 2) true ship
def xug (so t : Int) (office ship list : List (List Int)) : List Int := (list.filter (coP so t office ship)).map fun c => col c 1
def coOk (oo so t : Int) (office ship list : List (List Int)) : Bool := valF oo office && valF so ship && chF list && tmF t && oo == 0 && so != 0
theorem xws (oo so t : Int) (office ship list : List (List Int)) (h1 : office.length ≤ 9223372036854775807) (h2 : ship.length ≤ 9223372036854775807) (h3 : list.length ≤ 9223372036854775807) :
  xbC oo so t office ship list ∧ xcL oo so t office ship list = (if coOk oo so t office ship list = true then xaG (xpZ (xug so t office ship list)) else []) ∧ xcK oo so t office ship list = if coOk oo so t office ship list = true then 0 else 1 := by
 obtain ⟨a1, a2⟩ := xfF oo office h1
 obtain ⟨b1, b2⟩ := xfF so ship h2
 obtain ⟨c1, c2⟩ := xi8 list h3
 unfold xbC xcL xjU xcK
 rw [a2, b2, c2, xpA]
 have e : (!valF oo office || !valF so ship || !chF list || !tmF t || oo != 0 || so == 0) = !coOk oo so t office ship list := by
  unfold coOk
  show (!valF oo office || !valF so ship || !chF list || !tmF t || !(oo == 0) || so == 0) = !(valF oo office && valF so ship && chF list && tmF t && oo == 0 && !(so == 0))
  cases valF oo office <;> cases valF so ship <;> cases chF list <;> cases tmF t <;> cases (oo == 0) <;> cases (so == 0) <;> rfl
 rw [e]
 cases hok : coOk oo so t office ship list with
 | false => exact ⟨⟨a1, fun _ => b1, fun _ => c1, fun h => by cases h⟩, rfl, rfl⟩
 | true =>
  have hlist : list.length ≤ 200 := by
   unfold coOk chF at hok
   simp only [Bool.and_eq_true, decide_eq_true_eq] at hok
   exact hok.1.1.1.2.1
  obtain ⟨g1, g2⟩ := xb2 (step := xcJ oo so t office ship list) list (fun i (s : List (List Int)) => [.i i, .r s]) (fun s x => .inl (if coP so t office ship x = true then s ++ [[col x 1]] else s)) (fun i s => s.length ≤ i) (fun s => (2, [.i list.length, .r s])) 0
   (fun i s hi _ hI => by
    have hfit : xbf 8 (s.length + [[col list[i] 1]].length) := by unfold xbf maxLen; simp only [List.length_cons, List.length_nil]; omega
    refine ⟨?_, fun s' hs' => ?_⟩
    ·unfold xcJ
     simp only [gi_z, gr_1, gr_z, dlt hi, xaa (xay hi), xdh (show i < 9223372036854775807 by omega), xaS hi, (xr8 _ _ _ office h1).2, (xxQ _ _ ship h2).2]
     rw [xaa (fun _ => (xr8 _ _ _ office h1).1), xaa (fun _ => (xxQ _ _ ship h2).1), xaa hfit]
     generalize list[i] = x
     show (bif coP so t office ship x then _ else _) = _
     cases coP so t office ship x
     ·rw [if_neg (by decide)]; rfl
     ·rw [if_pos rfl]; rfl
    ·cases hs'
     exact Nat.le_trans (xrA _ _ _) (by omega))
   (fun i s hi _ => by
    have : i = list.length := by omega
    subst this
    unfold xcJ
    simp only [gi_z, gr_1, gr_z, dnlt]) (s := []) (Nat.zero_le _)
  rw [List.drop_zero, xdY, xgJ, List.nil_append] at g2
  have hg : xci oo so t office ship list = (3, [.i list.length, .r (xaG (xug so t office ship list))]) := by
   unfold xci
   have hi : xeS oo so t office ship list = [.i ((0 : Nat) : Int), .r []] := rfl
   rw [hi, g2]
   unfold xug xaG
   rw [List.map_map]
   rfl
  have hlen : (xaG (xug so t office ship list)).length < 4611686018427387904 := by
   have := List.length_filter_le (coP so t office ship) list
   simp [xaG, xug]; omega
  obtain ⟨o1, o2, o3⟩ := xxN (xaG (xug so t office ship list))
  rw [xhr] at o1
  rw [hg]
  exact ⟨⟨a1, fun _ => b1, fun _ => c1, fun _ => ⟨g1, hlen, o2, o3⟩⟩, o1, rfl⟩
end Go.Proofs.YtikhnofbbcmpeaaGreat
set_option linter.unusedVariables false
set_option maxRecDepth 100000
namespace Go.Proofs.YtikhnofbbcmpeaaGreat
open Go Go.Sy
def xDg (m k : Nat) : Bool := (bAnd IntKind.i64 ((m : Int).fdiv ((2 : Int) ^ min k IntKind.i64.bits)) 1 == 1) == m.testBit k
theorem xBr : (List.range 512).all (fun m => (List.range 9).all fun k => xDg m k) = true := by decide +kernel
theorem xAx {m k : Nat} (hm : m < 512) (hk : k < 9) : (bAnd IntKind.i64 ((m : Int).fdiv ((2 : Int) ^ min k IntKind.i64.bits)) 1 == 1) = m.testBit k := by
 have := List.all_eq_true.1 (List.all_eq_true.1 xBr m (List.mem_range.2 hm)) k (List.mem_range.2 hk)
 exact eq_of_beq this
def orOk (m k : Nat) : Bool := bOr IntKind.i64 (m : Int) (bShl IntKind.i64 1 (k : Int)) == ((m ||| 2 ^ k : Nat) : Int)
theorem xBH : (List.range 512).all (fun m => (List.range 9).all fun k => orOk m k) = true := by decide +kernel
theorem xBF {m k : Nat} (hm : m < 512) (hk : k < 9) : bOr IntKind.i64 (m : Int) (bShl IntKind.i64 1 (k : Int)) = ((m ||| 2 ^ k : Nat) : Int) := by
 have := List.all_eq_true.1 (List.all_eq_true.1 xBH m (List.mem_range.2 hm)) k (List.mem_range.2 hk)
 exact eq_of_beq this
def subB (m a : Nat) : Bool := (List.range 9).all fun k => !m.testBit k || a.testBit k
theorem xmG {m : Nat} (hm : m < 512) (i : Nat) : (BitVec.ofInt 64 (m : Int)).getLsbD i = (decide (i < 64) && m.testBit i) := by
 have : BitVec.ofInt 64 (m : Int) = BitVec.ofNat 64 m := by
  apply BitVec.eq_of_toNat_eq
  simp
 rw [this, BitVec.getLsbD_ofNat]
theorem xrj {m : Nat} (hm : m < 512) {i : Nat} (hi : 9 ≤ i) : m.testBit i = false := by
 refine Nat.testBit_lt_two_pow (Nat.lt_of_lt_of_le hm ?_)
 exact Nat.pow_le_pow_right (n := 2) (by omega) hi
theorem xxk {n : Nat} (h : n < 18446744073709551616) : IntKind.i64.wrap (n : Int) = 0 ↔ n = 0 := by
 constructor
 ·intro hw
  simp only [IntKind.wrap, IntKind.bits, IntKind.signed] at hw
  simp at hw
  split at hw <;> omega
 ·rintro rfl; decide
theorem xBP {m a : Nat} (hm : m < 512) (ha : a < 512) : (bNot IntKind.i64 (m : Int) (a : Int) != 0) = !subB m a := by
 have key : (BitVec.ofInt 64 (m : Int) &&& ~~~(BitVec.ofInt 64 (a : Int))) = 0#64 ↔ subB m a = true := by
  constructor
  ·intro h
   refine List.all_eq_true.2 fun k hk => ?_
   have hk := List.mem_range.1 hk
   have h1 := congrArg (fun v => v.getLsbD k) h
   simp only [BitVec.getLsbD_and, BitVec.getLsbD_not, xmG hm, xmG ha, BitVec.getLsbD_zero] at h1
   have h64 : k < 64 := by omega
   simp only [h64, decide_true, Bool.true_and] at h1
   cases h2 : m.testBit k <;> cases h3 : a.testBit k <;> simp_all
  ·intro h
   apply BitVec.eq_of_getLsbD_eq
   intro i hi
   simp only [BitVec.getLsbD_and, BitVec.getLsbD_not, xmG hm, xmG ha, BitVec.getLsbD_zero]
   by_cases h9 : i < 9
   ·have := List.all_eq_true.1 h i (List.mem_range.2 h9)
    cases h2 : m.testBit i <;> cases h3 : a.testBit i <;> simp_all
   ·rw [xrj hm (by omega)]; simp
 have hlt : (BitVec.ofInt 64 (m : Int) &&& ~~~(BitVec.ofInt 64 (a : Int))).toNat < 18446744073709551616 := BitVec.isLt _
 have e : bNot IntKind.i64 (m : Int) (a : Int) = IntKind.i64.wrap ((BitVec.ofInt 64 (m : Int) &&& ~~~(BitVec.ofInt 64 (a : Int))).toNat : Int) := rfl
 cases hs : subB m a with
 | true =>
  have := key.2 hs
  rw [e, this]; decide
 | false =>
  have hne : ¬ (BitVec.ofInt 64 (m : Int) &&& ~~~(BitVec.ofInt 64 (a : Int))) = 0#64 := fun h => by rw [key.1 h] at hs; cases hs
  have h0 : ¬ (BitVec.ofInt 64 (m : Int) &&& ~~~(BitVec.ofInt 64 (a : Int))).toNat = 0 := fun h => hne (BitVec.eq_of_toNat_eq h)
  have : ¬ bNot IntKind.i64 (m : Int) (a : Int) = 0 := fun h => h0 ((xxk hlt).1 (e ▸ h))
  simp [this]
def ddF (p : List Int) : List (List Int) → List (List Int)
 | [] => []
 | x :: r => if x = p then ddF p r else x :: ddF x r
def ddR : List (List Int) → List (List Int)
 | [] => []
 | x :: r => x :: ddF x r
theorem xsV (x : List Int) : ∀ (l : List (List Int)) (p : List Int), ddF p (l ++ [x]) = if (l.getLast?.getD p) = x then ddF p l else ddF p l ++ [x]
 | [], p => by
  show (if x = p then ddF p [] else x :: ddF x []) = if p = x then ddF p [] else ddF p [] ++ [x]
  by_cases h : x = p
  ·rw [if_pos h, if_pos h.symm]
  ·rw [if_neg h, if_neg (fun e => h e.symm)]; rfl
 | y :: r, p => by
  have e : (y :: r).getLast?.getD p = r.getLast?.getD y := by
   cases r with
   | nil => rfl
   | cons a b => rw [List.getLast?_cons_cons]; cases h : (a :: b).getLast? with
    | none => simp at h
    | some z => rfl
  rw [List.cons_append, e]
  unfold ddF
  by_cases h : y = p
  ·subst h
   rw [if_pos rfl, if_pos rfl]
   exact xsV x r y
  ·rw [if_neg h, if_neg h, xsV x r y]
   split <;> rfl
theorem xps {l : List (List Int)} {j : Nat} (h0 : 0 < j) (hj : j < l.length) : ddR (l.take (j + 1)) = if l[j] = l[j - 1] then ddR (l.take j) else ddR (l.take j) ++ [l[j]] := by
 cases l with
 | nil => simp at hj
 | cons x r =>
  obtain ⟨i, rfl⟩ : ∃ i, j = i + 1 := ⟨j - 1, by omega⟩
  have hi : i < r.length := by simpa using hj
  simp only [List.take_succ_cons, ddR]
  rw [List.take_succ_eq_append_getElem hi, xsV]
  have e1 : (x :: r)[i + 1] = r[i] := rfl
  have e2 : ((r.take i).getLast?.getD x) = (x :: r)[i + 1 - 1] := by
   cases i with
   | zero => rfl
   | succ i =>
    have hi' : i < r.length := by omega
    rw [List.take_succ_eq_append_getElem hi', List.getLast?_concat]
    rfl
  rw [e1, e2]
  by_cases h : r[i] = (x :: r)[i + 1 - 1]
  ·rw [if_pos h, if_pos h.symm]
  ·rw [if_neg h, if_neg (fun e => h e.symm)]; rfl
theorem xyV {l : List (List Int)} (h : 0 < l.length) : ddR (l.take 1) = [l[0]] := by
 cases l with
 | nil => simp at h
 | cons x r => rfl
theorem xeU (l : List (List Int)) : ∀ j, 0 < j → j ≤ l.length → (ddR (l.take j)).length ≤ j ∧ 0 < (ddR (l.take j)).length
 | 0, h, _ => by omega
 | 1, _, h => by rw [xyV (by omega)]; simp
 | j + 2, _, h => by
  obtain ⟨ih1, ih2⟩ := xeU l (j + 1) (by omega) (by omega)
  rw [xps (by omega) (by omega)]
  split
  ·omega
  ·simp; omega
theorem xsT {l : List (List Int)} : ∀ j, 0 < j → j ≤ l.length → (∀ i (hi : i < l.length), 0 < i → i < j → l[i] ≠ l[i - 1]) → ddR (l.take j) = l.take j
 | 0, h, _, _ => by omega
 | 1, _, h, _ => by rw [xyV (by omega), List.take_succ_eq_append_getElem (by omega)]; simp
 | j + 2, _, h, hne => by
  rw [xps (by omega) (by omega), if_neg (hne (j + 1) (by omega) (by omega) (by omega)), xsT (j + 1) (by omega) (by omega) (fun i hi h0 h1 => hne i hi h0 (by omega)), ← List.take_succ_eq_append_getElem]
theorem xsU : ∀ (l : List (List Int)) (p : List Int), l.Pairwise (fun a b => leL [0, 1, 2] a b = true) → (∀ x ∈ l, leL [0, 1, 2] p x = true) → (∀ x ∈ p :: l, ∀ y ∈ p :: l, leL [0, 1, 2] x y = true → leL [0, 1, 2] y x = true → x = y) →
  (ddF p l).Pairwise (fun a b => leL [0, 1, 2] b a = false) ∧ (∀ x ∈ ddF p l, leL [0, 1, 2] x p = false) ∧ ∀ x, x ∈ p :: ddF p l ↔ x ∈ p :: l
 | [], p, _, _, _ => ⟨List.Pairwise.nil, (fun x hx => by cases hx), fun x => Iff.rfl⟩
 | x :: r, p, h, hp, ha => by
  obtain ⟨a1, a2⟩ := List.pairwise_cons.1 h
  by_cases e : x = p
  ·subst e
   have hd : ddF x (x :: r) = ddF x r := by show (if x = x then ddF x r else _) = _; rw [if_pos rfl]
   obtain ⟨b1, b2, b3⟩ := xsU r x a2 a1 (fun y hy z hz => ha y (List.mem_cons_of_mem _ hy) z (List.mem_cons_of_mem _ hz))
   rw [hd]
   refine ⟨b1, b2, fun z => ?_⟩
   rw [b3 z]
   simp
  ·have hd : ddF p (x :: r) = x :: ddF x r := by show (if x = p then ddF p r else _) = _; rw [if_neg e]
   obtain ⟨b1, b2, b3⟩ := xsU r x a2 a1 (fun y hy z hz => ha y (List.mem_cons_of_mem _ hy) z (List.mem_cons_of_mem _ hz))
   have hxp : leL [0, 1, 2] x p = false := by
    cases hx : leL [0, 1, 2] x p with
    | false => rfl
    | true => exact absurd (ha x (by simp) p (by simp) hx (hp x (by simp))) e
   rw [hd]
   refine ⟨List.pairwise_cons.2 ⟨fun z hz => b2 z hz, b1⟩, fun z hz => ?_, fun z => ?_⟩
   ·rcases List.mem_cons.1 hz with rfl | hz
    ·exact hxp
    ·cases hzp : leL [0, 1, 2] z p with
     | false => rfl
     | true =>
      have := xeM _ _ _ _ hzp (hp x (by simp))
      rw [b2 z hz] at this
      cases this
   ·rw [List.mem_cons, b3 z, ← List.mem_cons]
theorem xzP {l : List (List Int)} (h : l.Pairwise (fun a b => leL [0, 1, 2] a b = true)) (ha : ∀ x ∈ l, ∀ y ∈ l, leL [0, 1, 2] x y = true → leL [0, 1, 2] y x = true → x = y) : (ddR l).Pairwise (fun a b => leL [0, 1, 2] b a = false) ∧ ∀ x, x ∈ ddR l ↔ x ∈ l := by
 cases l with
 | nil => exact ⟨List.Pairwise.nil, fun x => Iff.rfl⟩
 | cons x r =>
  obtain ⟨a1, a2⟩ := List.pairwise_cons.1 h
  obtain ⟨b1, b2, b3⟩ := xsU r x a2 a1 ha
  exact ⟨List.pairwise_cons.2 ⟨b2, b1⟩, b3⟩
end Go.Proofs.YtikhnofbbcmpeaaGreat
set_option linter.unusedVariables false
set_option maxRecDepth 100000
namespace Go.Proofs.YtikhnofbbcmpeaaGreat
open Go Go.Sy
def rOn (k : Nat) : List Int := [2, (k : Int), 0]
def lft (g : List Int) : List Int := if col g 2 = 0 then [3, col g 0, col g 1] else [1, 0, col g 1]
def cov (m : Nat) (g : List Int) : Bool := col g 3 != 0 && m.testBit (col g 0).toNat
def xim (m : Nat) (list : List (List Int)) : List (List Int) := ((List.range 9).filter m.testBit).map rOn ++ (list.filter fun g => !cov m g).map lft
def byF (m : Nat) (list : List (List Int)) : List (List Int) := ddR (xfD (leL [0, 1, 2]) (xim m list))
def xeD (list : List (List Int)) : Prop := ∀ g ∈ list, 0 ≤ col g 0 ∧ col g 0 ≤ 8
theorem xA0 (g : List Int) : (lft g).length = 3 := by unfold lft; split <;> rfl
theorem xob (m : Nat) (list : List (List Int)) : ∀ x ∈ xim m list, x.length = 3 := by
 intro x hx
 rcases List.mem_append.1 hx with hx | hx
 ·obtain ⟨k, _, rfl⟩ := List.mem_map.1 hx; rfl
 ·obtain ⟨g, _, rfl⟩ := List.mem_map.1 hx; exact xA0 g
theorem xsd {a b : List Int} (ha : a.length = 3) (hb : b.length = 3) (h0 : col a 0 = col b 0) (h1 : col a 1 = col b 1) (h2 : col a 2 = col b 2) : a = b := by
 match a, b, ha, hb with
 | [a0, a1, a2], [b0, b1, b2], _, _ =>
  have h0 : a0 = b0 := h0
  have h1 : a1 = b1 := h1
  have h2 : a2 = b2 := h2
  rw [h0, h1, h2]
theorem xvI {a b : List Int} (ha : a.length = 3) (hb : b.length = 3) : (col a 0 == col b 0 && (col a 1 == col b 1 && (col a 2 == col b 2 && true))) = decide (a = b) := by
 by_cases h : a = b
 ·subst h; simp
 ·rw [decide_eq_false h]
  cases hq : (col a 0 == col b 0 && (col a 1 == col b 1 && (col a 2 == col b 2 && true))) with
  | false => rfl
  | true =>
   simp only [Bool.and_eq_true, beq_iff_eq] at hq
   exact absurd (xsd ha hb hq.1 hq.2.1 hq.2.2.1) h
theorem xAw {m : Nat} (hm : m < 512) (list : List (List Int)) : xaz (xcb m list) (xfW m list) ∧ gr (xjq m list).snd 1 = ((List.range 9).filter m.testBit).map rOn := by
 have hu : ∀ n, upto (fun i (s : List (List Int)) => if m.testBit i = true then s ++ [rOn i] else s) n [] = ((List.range n).filter m.testBit).map rOn := by
  intro n
  induction n with
  | zero => rfl
  | succ n ih =>
   show (if m.testBit n = true then upto _ n [] ++ [rOn n] else upto _ n []) = _
   rw [ih, List.range_succ, List.filter_append, List.map_append]
   cases hb : m.testBit n
   ·simp [hb]
   ·simp [hb]
 obtain ⟨h1, h2, _⟩ := xmM (step := xcb m list) 9 (fun i (s : List (List Int)) => [.i i, .r s]) (fun i s => if m.testBit i = true then s ++ [rOn i] else s) (fun i s => s.length ≤ i) 2 (fun s => [.i (9 : Nat), .r s])
  (fun i s hi hI => Nat.le_trans (xrA _ _ _) (by omega))
  (fun i s hi hI => by
   have hfit : xbf 24 (s.length + [[(2 : Int), (i : Int), 0]].length) := by unfold xbf maxLen; simp only [List.length_cons, List.length_nil]; omega
   unfold xcb
   simp only [gi_z, gr_1, gr_z, decide_eq_true (show (i : Int) < 9 by omega), cond_true, xaa (show (0 : Int) ≤ (i : Int) by omega), Int.toNat_natCast, xAx hm hi, xdh (show i < 9223372036854775807 by omega)]
   rw [xaa hfit]
   cases m.testBit i
   ·rw [if_neg (by decide)]; rfl
   ·rw [if_pos rfl]; rfl)
  (fun s hI => by
   unfold xcb
   simp only [gi_z, gr_1, gr_z]
   rfl) (s := []) (Nat.le_refl _)
 refine ⟨h1, ?_⟩
 have : xjq m list = xan (xcb m list) [.i ((0 : Nat) : Int), .r []] := rfl
 rw [this, h2]
 show gr [.i (9 : Nat), .r (upto _ 9 [])] 1 = _
 rw [gr_1, gr_z, hu]
theorem xCk {m : Nat} (hm : m < 512) {list : List (List Int)} (hs : xeD list) (hl : list.length ≤ 1000000) : xaz (xcR m list) (xdx m list) ∧ gr (xao m list).snd 1 = xim m list := by
 have h9 : (((List.range 9).filter m.testBit).map rOn).length ≤ 9 := by
  rw [List.length_map]
  exact Nat.le_trans (List.length_filter_le _ _) (by simp)
 obtain ⟨h1, h2⟩ := xb2 (step := xcR m list) list (fun i (s : List (List Int)) => [.i i, .r s]) (fun s x => .inl (if (!cov m x) = true then s ++ [lft x] else s)) (fun i s => s.length ≤ 9 + i) (fun s => (3, [.i list.length, .r s])) 0
  (fun i s hi _ hI => by
   have hfit : ∀ x : List Int, xbf 24 (s.length + [x].length) := fun x => by unfold xbf maxLen; simp only [List.length_cons, List.length_nil]; omega
   refine ⟨?_, fun s' hs' => ?_⟩
   ·obtain ⟨q1, q2⟩ := hs _ (List.getElem_mem hi)
    unfold xcR xmX
    simp only [gi_z, gr_1, gr_z, dlt hi, xaa (xay hi), xdh (show i < 9223372036854775807 by omega), xaS hi]
    generalize hx : list[i] = x at *
    rw [xaa (fun _ => q1), xaa (hfit _), xaa (hfit _)]
    have hb := xAx hm (show (col x 0).toNat < 9 by omega)
    have hb' : (bAnd IntKind.i64 ((m : Int).fdiv ((2 : Int) ^ min (x.getD 0 0).toNat IntKind.i64.bits)) 1 == 1) = m.testBit (col x 0).toNat := hb
    rw [hb']
    show (bif cov m x then _ else _) = _
    cases cov m x with
    | true => rw [if_neg (by decide)]; rfl
    | false =>
     rw [if_pos (show (!false) = true from rfl)]
     unfold lft
     by_cases h2 : x.getD 2 0 = 0
     ·rw [if_pos h2, h2]; rfl
     ·rw [if_neg h2]
      have : (x.getD 2 0 != 0) = true := by simpa using h2
      rw [this]; rfl
   ·cases hs'
    exact Nat.le_trans (xrA _ _ _) (by omega))
  (fun i s hi _ => by
   have : i = list.length := by omega
   subst this
   unfold xcR
   simp only [gi_z, gr_1, gr_z, dnlt]) (s := ((List.range 9).filter m.testBit).map rOn) (by omega)
 have e : xdx m list = [.i ((0 : Nat) : Int), .r (((List.range 9).filter m.testBit).map rOn)] := by
  unfold xdx
  rw [(xAw hm list).2]; rfl
 unfold xao
 rw [e]
 refine ⟨h1, ?_⟩
 rw [h2, List.drop_zero, xdY, xgJ]
 show gr [.i list.length, .r _] 1 = _
 rw [gr_1, gr_z]
 rfl
theorem xBB {a : List Int} (x y z : Int) : xoT 3 a 0 [x, y, z] = [x, y, z] := rfl
theorem xCi {set : Int} {list T : List (List Int)} (hT : xaV 3 [0, 1, 2] (gr (xao set list).snd 1) = T) (h3 : ∀ x ∈ T, x.length = 3) {k0 : Nat} (hk : 0 < k0) (hk' : k0 < T.length) (hlen : T.length ≤ 10000000) (hd : ddR (T.take (k0 + 1)) = T.take k0) :
  xaz (xb9 set list [.i k0]) (xcQ set list [.i k0]) ∧ ∃ (k : Nat) (S : List (List Int)), xar set list [.i k0] = (3, [.i k, .i (T.length - k0 : Nat), .r S]) ∧ k ≤ T.length ∧ S.length = T.length ∧ S.take k = ddR T := by
 have h3at : ∀ j (hj : j < T.length), T[j].length = 3 := fun j hj => h3 _ (List.getElem_mem hj)
 let f : Nat → Nat × List (List Int) → Nat × List (List Int) := fun i s => if T.getD (k0 + (i + 1)) [] = T.getD (k0 + i) [] then s else (s.1 + 1, s.2.set s.1 (T.getD (k0 + (i + 1)) []))
 let I : Nat → Nat × List (List Int) → Prop := fun i s => s.1 = (ddR (T.take (k0 + i + 1))).length ∧ s.2.length = T.length ∧ s.2.take s.1 = ddR (T.take (k0 + i + 1)) ∧ (∀ p, k0 + i ≤ p → s.2[p]? = T[p]?) ∧ s.1 ≤ k0 + i
 have hI : ∀ i s, i < T.length - k0 - 1 → I i s → I (i + 1) (f i s) := by
  rintro i ⟨k, S⟩ hi ⟨q1, q2, q3, q4, q5⟩
  have q5 : k ≤ k0 + i := q5
  have q4 : ∀ p, k0 + i ≤ p → S[p]? = T[p]? := q4
  have hj : k0 + i + 1 < T.length := by omega
  have e1 : T.getD (k0 + (i + 1)) [] = T[k0 + i + 1] := xbe (i := k0 + i + 1) hj
  have e2 : T.getD (k0 + i) [] = T[k0 + i] := xbe (by omega)
  have hdt := xps (l := T) (j := k0 + i + 1) (by omega) hj
  have hdl := xeU T (k0 + i + 1) (by omega) (by omega)
  show I (i + 1) (if T.getD (k0 + (i + 1)) [] = T.getD (k0 + i) [] then (k, S) else (k + 1, S.set k (T.getD (k0 + (i + 1)) [])))
  rw [e1, e2]
  have e3 : k0 + i + 1 - 1 = k0 + i := rfl
  by_cases h : T[k0 + i + 1] = T[k0 + i]
  ·rw [if_pos h]
   rw [if_pos (by simpa using h)] at hdt
   refine ⟨?_, q2, ?_, fun p hp => q4 p (by omega), by show k ≤ k0 + (i + 1); omega⟩
   ·rw [show k0 + (i + 1) + 1 = k0 + i + 1 + 1 by omega, hdt]; exact q1
   ·rw [show k0 + (i + 1) + 1 = k0 + i + 1 + 1 by omega, hdt]; exact q3
  ·rw [if_neg h]
   rw [if_neg (by simpa using h)] at hdt
   have q1 : k = _ := q1
   have q2 : S.length = T.length := q2
   have q3 : S.take k = _ := q3
   refine ⟨?_, by simp [q2], ?_, fun p hp => ?_, by show k + 1 ≤ k0 + (i + 1); omega⟩
   ·rw [show k0 + (i + 1) + 1 = k0 + i + 1 + 1 by omega, hdt, List.length_append, ← q1]; rfl
   ·show (S.set k T[k0 + i + 1]).take (k + 1) = _
    rw [show k0 + (i + 1) + 1 = k0 + i + 1 + 1 by omega, hdt, List.take_succ_eq_append_getElem (by simp; omega)]
    congr 1
    ·rw [List.take_set_of_le (Nat.le_refl _), q3]
    ·simp
   ·show (S.set k T[k0 + i + 1])[p]? = _
    rw [List.getElem?_set_ne (by omega)]
    exact q4 p (by omega)
 obtain ⟨g1, g2, g3⟩ := xmM (step := xb9 set list [.i k0]) (T.length - k0 - 1) (fun i (s : Nat × List (List Int)) => [.i s.1, .i ((i + 1 : Nat) : Int), .r s.2]) f I 2 (fun s => [.i s.1, .i (T.length - k0 : Nat), .r s.2]) hI
  (fun i s hi hIs => by
   obtain ⟨k, S⟩ := s
   obtain ⟨q1, q2, q3, q4, q5⟩ := hIs
   have q1 : k = _ := q1
   have q2 : S.length = T.length := q2
   have q4 : ∀ p, k0 + i ≤ p → S[p]? = T[p]? := q4
   have hj : k0 + i + 1 < T.length := by omega
   have hdl := xeU T (k0 + i + 1) (by omega) (by omega)
   have e1 : T.getD (k0 + (i + 1)) [] = T[k0 + i + 1] := xbe (i := k0 + i + 1) hj
   have e2 : T.getD (k0 + i) [] = T[k0 + i] := xbe (by omega)
   have s1 : S.getD (k0 + i + 1) [] = T[k0 + i + 1] := by rw [List.getD_eq_getElem?_getD, q4 _ (by omega), List.getElem?_eq_getElem hj]; rfl
   have s2 : S.getD (k0 + i) [] = T[k0 + i] := by rw [List.getD_eq_getElem?_getD, q4 _ (by omega), List.getElem?_eq_getElem (by omega)]; rfl
   have hw1 : IntKind.i64.wrap (((i + 1 : Nat) : Int) - 1) = ((i : Nat) : Int) := by rw [xe6 (by omega)]; omega
   have hw2 : IntKind.i64.wrap ((k : Int) + 1) = ((k + 1 : Nat) : Int) := xdh (by omega)
   have hw3 : IntKind.i64.wrap (((i + 1 : Nat) : Int) + 1) = ((i + 1 + 1 : Nat) : Int) := xdh (by omega)
   unfold xb9 xmT xjp xg6 xc4 xfU
   rw [hT]
   simp only [gi_z, gi_1, gr_2, gr_1, gr_z, xat, shI, loN, Int.toNat_natCast, hw1, hw2, hw3]
   rw [decide_eq_true (by omega), cond_true, xaa (by omega), xaa (by unfold inR; omega), xaa (by omega), xaa (by unfold inR; omega)]
   rw [show ((k0 : Int) + ((i + 1 : Nat) : Int)).toNat = k0 + i + 1 by omega, show ((k0 : Int) + ((i : Nat) : Int)).toNat = k0 + i by omega, s1, s2]
   have hq := xvI (h3at (k0 + i + 1) hj) (h3at (k0 + i) (by omega))
   rw [hq]
   show _ = some (0, [U.i (f i (k, S)).1, U.i ((i + 1 + 1 : Nat) : Int), U.r (f i (k, S)).2])
   have ef : f i (k, S) = if T.getD (k0 + (i + 1)) [] = T.getD (k0 + i) [] then (k, S) else (k + 1, S.set k (T.getD (k0 + (i + 1)) [])) := rfl
   rw [ef, e1, e2]
   by_cases h : T[k0 + i + 1] = T[k0 + i]
   ·rw [if_pos h, decide_eq_true h]; rfl
   ·rw [if_neg h, decide_eq_false h]
    simp only [Bool.not_false, cond_true]
    rw [xaa (by omega), xaa (by unfold inR; omega), xaa (by unfold inR; omega), xaa (by unfold inR; omega), xBB]
    rw [xsd (a := [col T[k0 + i + 1] 0, col T[k0 + i + 1] 1, col T[k0 + i + 1] 2]) (b := T[k0 + i + 1]) rfl (h3at _ hj) rfl rfl rfl])
  (fun s hIs => by
   obtain ⟨k, S⟩ := s
   unfold xb9 xjp
   rw [hT]
   simp only [gi_z, gi_1, gr_2, gr_1, gr_z, xat, loN, Int.toNat_natCast]
   rw [decide_eq_false (by omega), cond_false, show T.length - k0 - 1 + 1 = T.length - k0 by omega]) (s := (k0, T))
  ⟨by rw [Nat.add_zero, hd, List.length_take]; show k0 = _; omega, rfl, by rw [Nat.add_zero, hd], fun p _ => rfl, Nat.le_refl _⟩
 have ei : xcQ set list [.i k0] = [.i k0, .i ((0 + 1 : Nat) : Int), .r T] := by
  unfold xcQ
  rw [hT]; rfl
 unfold xar
 rw [ei]
 refine ⟨g1, _, _, g2, ?_, g3.2.1, ?_⟩
 ·have := g3.1
  rw [this]
  rw [show k0 + (T.length - k0 - 1) + 1 = T.length by omega]
  exact (xeU T T.length (by omega) (Nat.le_refl _)).1
 ·have := g3.2.2.1
  rw [show k0 + (T.length - k0 - 1) + 1 = T.length by omega, List.take_length] at this
  exact this
theorem xCj {set : Int} {list T : List (List Int)} (hT : xaV 3 [0, 1, 2] (gr (xao set list).snd 1) = T) (h3 : ∀ x ∈ T, x.length = 3) (h2 : 2 ≤ T.length) (hlen : T.length ≤ 10000000) :
  xaz (xca set list) (xfV set list) ∧
  (((xbr set list).1 = 1 ∧ 0 ≤ gi (xbr set list).2 0 ∧ gi (xbr set list).2 0 ≤ ((gr (xbr set list).2 1).length : Int) ∧ (gr (xbr set list).2 1).take (gi (xbr set list).2 0).toNat = ddR T) ∨ ((xbr set list).1 = 3 ∧ ddR T = T)) := by
 have h3at : ∀ j (hj : j < T.length), T[j].length = 3 := fun j hj => h3 _ (List.getElem_mem hj)
 refine xzB (step := xca set list) (T.length - 1) (fun i xs => xs = [.i ((i + 1 : Nat) : Int)] ∧ ∀ j (hj : j < T.length), 0 < j → j < i + 1 → T[j] ≠ T[j - 1])
  (fun r => (r.1 = 1 ∧ 0 ≤ gi r.2 0 ∧ gi r.2 0 ≤ ((gr r.2 1).length : Int) ∧ (gr r.2 1).take (gi r.2 0).toNat = ddR T) ∨ (r.1 = 3 ∧ ddR T = T)) (fun i xs hi hinv => ?_) (fun xs hinv => ?_) ⟨rfl, fun j hj h0 h1 => by omega⟩
 ·obtain ⟨rfl, hne⟩ := hinv
  have hj : i + 1 < T.length := by omega
  have hw1 : IntKind.i64.wrap (((i + 1 : Nat) : Int) - 1) = ((i : Nat) : Int) := by rw [xe6 (by omega)]; omega
  have hw3 : IntKind.i64.wrap (((i + 1 : Nat) : Int) + 1) = ((i + 1 + 1 : Nat) : Int) := xdh (by omega)
  have hstep : xca set list [.i ((i + 1 : Nat) : Int)] = bif decide (T[i + 1] = T[i]) then xab ((0 : Int) ≤ ((i + 1 : Nat) : Int) ∧ ((i + 1 : Nat) : Int) ≤ (T.length : Int)) (xab ((xaz (xb9 set list [.i ((i + 1 : Nat) : Int)]) (xcQ set list [.i ((i + 1 : Nat) : Int)]))) (xab (((0 : Int) ≤ gi (xar set list [.i ((i + 1 : Nat) : Int)]).snd 0) ∧ (gi (xar set list [.i ((i + 1 : Nat) : Int)]).snd 0 ≤ (↑(gr (xar set list [.i ((i + 1 : Nat) : Int)]).snd 2).length : Int))) (xab (((↑(loN (xat (↑(gr (xar set list [.i ((i + 1 : Nat) : Int)]).snd 2).length : Int) (some (gi (xar set list [.i ((i + 1 : Nat) : Int)]).snd 0)) none).snd.fst) : Int) ≤ (xb8 set list [.i ((i + 1 : Nat) : Int)])) ∧ ((xb8 set list [.i ((i + 1 : Nat) : Int)]) ≤ (↑(gr (xar set list [.i ((i + 1 : Nat) : Int)]).snd 2).length : Int))) (xab (((0 : Int) ≤ gi (xar set list [.i ((i + 1 : Nat) : Int)]).snd 0) ∧ (gi (xar set list [.i ((i + 1 : Nat) : Int)]).snd 0 ≤ (↑((xeh set list [.i ((i + 1 : Nat) : Int)]) ++ List.drop ((xb8 set list [.i ((i + 1 : Nat) : Int)])).toNat (gr (xar set list [.i ((i + 1 : Nat) : Int)]).snd 2)).length : Int))) (some (1, [U.i ((xie set list [.i ((i + 1 : Nat) : Int)])), U.r ((xeh set list [.i ((i + 1 : Nat) : Int)]) ++ List.drop ((xb8 set list [.i ((i + 1 : Nat) : Int)])).toNat (gr (xar set list [.i ((i + 1 : Nat) : Int)]).snd 2))])))))) else some (0, [U.i ((i + 1 + 1 : Nat) : Int)]) := by
   unfold xca xmW xmV xmU
   rw [hT]
   simp only [gi_z, hw1, hw3]
   rw [decide_eq_true (by omega), cond_true, xaa (xay hj), xaa (xay hj), xaa (xay (by omega)), xaa (xay (by omega)), xaS hj, xaS (show i < T.length by omega), xvI (h3at _ hj) (h3at _ (by omega))]
  by_cases h : T[i + 1] = T[i]
  ·right
   have hd : ddR (T.take (i + 1 + 1)) = T.take (i + 1) := by
    rw [xps (by omega) hj, if_pos (by simpa using h)]
    exact xsT (i + 1) (by omega) (by omega) hne
   obtain ⟨g1, k, S, g2, g3, g4, g5⟩ := xCi hT h3 (by omega) hj hlen hd
   refine ⟨0, [.i k, .r (S.take k ++ List.replicate (S.length - k) [0, 0, 0] ++ S.drop S.length)], ?_, .inl ⟨rfl, ?_, ?_, ?_⟩⟩
   ·rw [hstep, decide_eq_true h, cond_true, xaa (by omega), xaa g1]
    unfold xie xeh xlq xb8
    rw [g2]
    simp only [gi_z, gr_2, gr_1, gr_z, xat, loN, Option.getD_some, Int.toNat_natCast]
    rw [xaa (by omega), xaa (by omega), xaa (by simp; omega)]
   ·rw [gi_z]; omega
   ·rw [gi_z, gr_1, gr_z]; simp; omega
   ·rw [gi_z, gr_1, gr_z, Int.toNat_natCast, List.append_assoc, List.take_append_of_le_length (by simp; omega), List.take_take, Nat.min_self, g5]
  ·left
   refine ⟨[.i ((i + 1 + 1 : Nat) : Int)], ?_, rfl, fun j hj' h0 h1 => ?_⟩
   ·rw [hstep, decide_eq_false h]; rfl
   ·by_cases e : j = i + 1
    ·subst e; simpa using h
    ·exact hne j hj' h0 (by omega)
 ·obtain ⟨rfl, hne⟩ := hinv
  refine ⟨2, [.i ((T.length - 1 + 1 : Nat) : Int)], ?_, .inr ⟨rfl, ?_⟩⟩
  ·unfold xca
   rw [hT]
   simp only [gi_z]
   rw [decide_eq_false (by omega)]; rfl
  ·have := xsT T.length (by omega) (Nat.le_refl _) (fun j hj h0 h1 => hne j hj h0 (by omega))
   rwa [List.take_length] at this
theorem xCh {m : Nat} (hm : m < 512) {list : List (List Int)} (hs : xeD list) (hl : list.length ≤ 1000000) : xdF m list ∧ xaU m list = byF m list := by
 obtain ⟨a1, _⟩ := xAw hm list
 obtain ⟨b1, b2⟩ := xCk hm hs hl
 have hraw : (xim m list).length ≤ 1000009 := by
  unfold xim
  rw [List.length_append, List.length_map, List.length_map]
  have h1 : ((List.range 9).filter m.testBit).length ≤ 9 := Nat.le_trans (List.length_filter_le _ _) (by simp)
  have h2 := List.length_filter_le (fun g => !cov m g) list
  omega
 have hT : xaV 3 [0, 1, 2] (gr (xao m list).snd 1) = xfD (leL [0, 1, 2]) (xim m list) := by
  rw [b2]
  unfold xaV
  rw [xzz (xob m list)]
 have h3 : ∀ x ∈ xfD (leL [0, 1, 2]) (xim m list), x.length = 3 := fun x hx => xob m list x (xmQ.1 hx)
 have hTl : (xfD (leL [0, 1, 2]) (xim m list)).length = (xim m list).length := xeO _
 unfold xdF xaU xlo xlp
 rw [hT]
 have key : (xfD (leL [0, 1, 2]) (xim m list)).length < 2 → ddR (xfD (leL [0, 1, 2]) (xim m list)) = xfD (leL [0, 1, 2]) (xim m list) := by
  intro h
  generalize xfD (leL [0, 1, 2]) (xim m list) = T at *
  match T, h with
  | [], _ => rfl
  | [x], _ => rfl
 by_cases h2 : (xfD (leL [0, 1, 2]) (xim m list)).length < 2
 ·refine ⟨⟨a1, b1, by rw [b2]; omega, fun h => ?_⟩, ?_⟩
  ·rw [decide_eq_true (by omega)] at h; cases h
  ·rw [decide_eq_true (by omega), cond_true]
   exact (key h2).symm
 ·obtain ⟨c1, c2⟩ := xCj hT h3 (by omega) (by omega)
  rw [decide_eq_false (by omega), cond_false]
  rcases c2 with ⟨d1, d2, d3, d4⟩ | ⟨d1, d2⟩
  ·refine ⟨⟨a1, b1, by rw [b2]; omega, fun _ => ⟨c1, fun _ => ⟨d2, d3⟩⟩⟩, ?_⟩
   rw [d1]
   exact d4
  ·refine ⟨⟨a1, b1, by rw [b2]; omega, fun _ => ⟨c1, fun h => by rw [d1] at h; cases h⟩⟩, ?_⟩
   rw [d1]
   exact d2.symm
theorem xya {l : List (List Int)} (h3 : ∀ x ∈ l, x.length = 3) : ∀ x ∈ l, ∀ y ∈ l, leL [0, 1, 2] x y = true → leL [0, 1, 2] y x = true → x = y := fun x hx y hy h1 h2 => by
 have := xpl _ _ _ h1 h2
 exact xsd (h3 x hx) (h3 y hy) (this 0 (by simp)) (this 1 (by simp)) (this 2 (by simp))
theorem xs3 (m : Nat) (list : List (List Int)) : (byF m list).Pairwise (fun a b => leL [0, 1, 2] b a = false) ∧ ∀ x, x ∈ byF m list ↔ x ∈ xim m list := by
 have h3 : ∀ x ∈ xfD (leL [0, 1, 2]) (xim m list), x.length = 3 := fun x hx => xob m list x (xmQ.1 hx)
 obtain ⟨h1, h2⟩ := xzP (xgI (xeN _) (xeM _) (xim m list)) (xya h3)
 exact ⟨h1, fun x => by rw [show byF m list = ddR (xfD (leL [0, 1, 2]) (xim m list)) from rfl, h2, xmQ]⟩
end Go.Proofs.YtikhnofbbcmpeaaGreat
set_option linter.unusedVariables false
set_option maxRecDepth 100000
namespace Go.Proofs.YtikhnofbbcmpeaaGreat
open Go Go.Sy
theorem xwi (x y : List Int) : cfO x y < 0 ↔ leL [0, 1, 2] y x = false := by
 have := xvh x y
 constructor
 ·intro h; rw [decide_eq_true h] at this; simpa using this.symm
 ·intro h; rw [h] at this; simpa using this
theorem xsZ (x y : List Int) : cfO x y = 0 ↔ (col x 0 = col y 0 ∧ col x 1 = col y 1 ∧ col x 2 = col y 2) := by
 show cfO x y = 0 ↔ (x.getD 0 0 = y.getD 0 0 ∧ x.getD 1 0 = y.getD 1 0 ∧ x.getD 2 0 = y.getD 2 0)
 unfold cfO
 rw [(xhg _ _ _ _ _ _).2]
 simp only [cmpC, orL]
 generalize x.getD 0 0 = a
 generalize x.getD 1 0 = b
 generalize x.getD 2 0 = c
 generalize y.getD 0 0 = d
 generalize y.getD 1 0 = e
 generalize y.getD 2 0 = f
 have one : ∀ u v : Int, (if u < v then (-1 : Int) else if v < u then 1 else 0) = 0 ↔ u = v := fun u v => by
  by_cases h1 : u < v
  ·rw [if_pos h1]; omega
  ·rw [if_neg h1]
   by_cases h2 : v < u
   ·rw [if_pos h2]; omega
   ·rw [if_neg h2]; omega
 by_cases h1 : (if a < d then (-1 : Int) else if d < a then 1 else 0) = 0
 ·rw [if_pos h1]
  by_cases h2 : (if b < e then (-1 : Int) else if e < b then 1 else 0) = 0
  ·rw [if_pos h2]
   by_cases h3 : (if c < f then (-1 : Int) else if f < c then 1 else 0) = 0
   ·rw [if_pos h3]
    exact ⟨fun _ => ⟨(one _ _).1 h1, (one _ _).1 h2, (one _ _).1 h3⟩, fun _ => rfl⟩
   ·rw [if_neg h3]
    exact ⟨fun h => absurd h h3, fun h => absurd ((one _ _).2 h.2.2) h3⟩
  ·rw [if_neg h2]
   exact ⟨fun h => absurd h h2, fun h => absurd ((one _ _).2 h.2.1) h2⟩
 ·rw [if_neg h1]
  exact ⟨fun h => absurd h h1, fun h => absurd ((one _ _).2 h.1) h1⟩
noncomputable def cmpL : List (List Int) → List (List Int) → Int
 | [], [] => 0
 | [], _ :: _ => -1
 | _ :: _, [] => 1
 | x :: r, y :: r' => if cfO x y = 0 then cmpL r r' else cfO x y
noncomputable def xe9 (x b : List (List Int)) : Bool := decide (x.length < b.length) || (x.length == b.length && decide (cmpL x b < 0))
theorem xwg : ∀ x, cmpL x x = 0
 | [] => rfl
 | x :: r => by
  unfold cmpL
  rw [if_pos ((xsZ x x).2 ⟨rfl, rfl, rfl⟩)]
  exact xwg r
theorem xvi {x x' y : List Int} (h : cfO x x' = 0) : cfO x y = cfO x' y := by
 obtain ⟨h0, h1, h2⟩ := (xsZ x x').1 h
 have h0 : x.getD 0 0 = x'.getD 0 0 := h0
 have h1 : x.getD 1 0 = x'.getD 1 0 := h1
 have h2 : x.getD 2 0 = x'.getD 2 0 := h2
 unfold cfO
 rw [h0, h1, h2]
theorem xqv {x y y' : List Int} (h : cfO y y' = 0) : cfO x y = cfO x y' := by
 obtain ⟨h0, h1, h2⟩ := (xsZ y y').1 h
 have h0 : y.getD 0 0 = y'.getD 0 0 := h0
 have h1 : y.getD 1 0 = y'.getD 1 0 := h1
 have h2 : y.getD 2 0 = y'.getD 2 0 := h2
 unfold cfO
 rw [h0, h1, h2]
theorem xx4 {x y z : List Int} (h : leL [0, 1, 2] y x = false) (k : leL [0, 1, 2] z y = false) : leL [0, 1, 2] z x = false := by
 have le_ne : ∀ {a b : List Int}, leL [0, 1, 2] a b = false → leL [0, 1, 2] b a = true := fun {a b} h => (xeN _ a b).resolve_left (by simp [h])
 cases hz : leL [0, 1, 2] z x with
 | false => rfl
 | true =>
  have := xeM _ _ _ _ hz (le_ne h)
  rw [k] at this
  cases this
theorem xrO : ∀ {x y z : List (List Int)}, x.length = y.length → y.length = z.length → cmpL x y < 0 → cmpL y z < 0 → cmpL x z < 0
 | [], [], [], _, _, h, _ => by simp [cmpL] at h
 | x :: r, y :: r', z :: r'', h1, h2, h, k => by
  unfold cmpL at h k ⊢
  by_cases e1 : cfO x y = 0
  ·rw [if_pos e1] at h
   by_cases e2 : cfO y z = 0
   ·rw [if_pos e2] at k
    rw [if_pos ((xqv e2).symm.trans e1)]
    exact xrO (by simpa using h1) (by simpa using h2) h k
   ·rw [if_neg e2] at k
    have e3 : cfO x z = cfO y z := xvi e1
    rw [e3, if_neg e2]; exact k
  ·rw [if_neg e1] at h
   by_cases e2 : cfO y z = 0
   ·have e3 : cfO x y = cfO x z := xqv e2
    rw [← e3, if_neg e1]; exact h
   ·rw [if_neg e2] at k
    have e3 := (xwi x z).2 (xx4 ((xwi x y).1 h) ((xwi y z).1 k))
    rw [if_neg (by omega)]; exact e3
 | [], [], _ :: _, _, h, _, _ => by simp at h
 | [], _ :: _, _, h, _, _, _ => by simp at h
 | _ :: _, [], _, h, _, _, _ => by simp at h
 | _ :: _, _ :: _, [], _, h, _, _ => by simp at h
theorem xoL {x y z : List (List Int)} (h : xe9 x y = true) (k : xe9 y z = true) : xe9 x z = true := by
 unfold xe9 at *
 simp only [Bool.or_eq_true, Bool.and_eq_true, decide_eq_true_eq, beq_iff_eq] at *
 rcases h with h | ⟨h1, h2⟩ <;> rcases k with k | ⟨k1, k2⟩
 ·left; omega
 ·left; omega
 ·left; omega
 ·right; exact ⟨by omega, xrO h1 k1 h2 k2⟩
theorem xxd (x : List (List Int)) : xe9 x x = false := by
 unfold xe9
 rw [xwg]
 simp
def allF (list : List (List Int)) : Nat := list.foldl (fun a g => if col g 3 != 0 then a ||| 2 ^ (col g 0).toNat else a) 0
theorem xvx : ∀ (list : List (List Int)) (a : Nat), xeD list → a < 512 → (list.foldl (fun a g => if col g 3 != 0 then a ||| 2 ^ (col g 0).toNat else a) a) < 512 ∧ ∀ k, (list.foldl (fun a g => if col g 3 != 0 then a ||| 2 ^ (col g 0).toNat else a) a).testBit k = (a.testBit k || list.any fun g => col g 3 != 0 && decide ((col g 0).toNat = k))
 | [], a, _, ha => ⟨ha, fun k => by simp⟩
 | g :: r, a, hs, ha => by
  obtain ⟨q1, q2⟩ := hs g List.mem_cons_self
  have hr : xeD r := fun x hx => hs x (List.mem_cons_of_mem _ hx)
  rw [List.foldl_cons]
  cases h3 : (col g 3 != 0) with
  | false =>
   rw [if_neg (by decide)]
   obtain ⟨g1, g2⟩ := xvx r a hr ha
   refine ⟨g1, fun k => ?_⟩
   rw [g2, List.any_cons, h3, Bool.false_and, Bool.false_or]
  | true =>
   rw [if_pos rfl]
   have hlt : a ||| 2 ^ (col g 0).toNat < 512 := Nat.or_lt_two_pow (n := 9) ha (Nat.pow_lt_pow_right (by omega) (by omega))
   obtain ⟨g1, g2⟩ := xvx r _ hr hlt
   refine ⟨g1, fun k => ?_⟩
   rw [g2, List.any_cons, h3, Bool.true_and, Nat.testBit_or, Nat.testBit_two_pow, Bool.or_assoc]
theorem xwn {list : List (List Int)} (hs : xeD list) : allF list < 512 ∧ ∀ k, (allF list).testBit k = list.any fun g => col g 3 != 0 && decide ((col g 0).toNat = k) := by
 obtain ⟨h1, h2⟩ := xvx list 0 hs (by omega)
 refine ⟨h1, fun k => ?_⟩
 have := h2 k
 rw [Nat.zero_testBit, Bool.false_or] at this
 exact this
theorem xBn {list : List (List Int)} (hs : xeD list) (hl : list.length ≤ 1000000) : xaz (xbm list) (xeq list) ∧ gi (xdP list).snd 0 = ((allF list : Nat) : Int) := by
 have hin : ∀ (l : List (List Int)) (a : Nat), xeD l → a < 512 → runL (fun (s : Nat) x => .inl (if col x 3 != 0 then s ||| 2 ^ (col x 0).toNat else s)) a l = (.inl (l.foldl (fun a g => if col g 3 != 0 then a ||| 2 ^ (col g 0).toNat else a) a) : Nat ⊕ (Nat × List U)) := fun l a _ _ => xdY _ l a
 obtain ⟨h1, h2⟩ := xb2 (step := xbm list) list (fun i (s : Nat) => [.i (s : Int), .i i]) (fun s x => .inl (if col x 3 != 0 then s ||| 2 ^ (col x 0).toNat else s)) (fun i s => s < 512) (fun s => (2, [.i (s : Int), .i list.length])) 0
  (fun i s hi _ hI => by
   obtain ⟨q1, q2⟩ := hs _ (List.getElem_mem hi)
   refine ⟨?_, fun s' hs' => ?_⟩
   ·unfold xbm
    simp only [gi_z, gi_1, dlt hi, xaa (xay hi), xdh (show i < 9223372036854775807 by omega), xaS hi]
    generalize hx : list[i] = x at *
    rw [xaa q1]
    have hb := xBF hI (show (col x 0).toNat < 9 by omega)
    rw [Int.toNat_of_nonneg q1] at hb
    have hb' : bOr IntKind.i64 (s : Int) (bShl IntKind.i64 1 (x.getD 0 0)) = ((s ||| 2 ^ (col x 0).toNat : Nat) : Int) := hb
    rw [hb']
    show (bif col x 3 != 0 then _ else _) = _
    cases (col x 3 != 0)
    ·rw [if_neg (by decide)]; rfl
    ·rw [if_pos rfl]; rfl
   ·cases hs'
    split
    ·exact Nat.or_lt_two_pow (n := 9) hI (Nat.pow_lt_pow_right (by omega) (by omega))
    ·exact hI)
  (fun i s hi _ => by
   have : i = list.length := by omega
   subst this
   unfold xbm
   simp only [gi_z, gi_1, dnlt]) (s := 0) (by omega)
 refine ⟨h1, ?_⟩
 have : xdP list = xan (xbm list) [.i ((0 : Nat) : Int), .i ((0 : Nat) : Int)] := rfl
 rw [this, h2, List.drop_zero, xdY]
 exact gi_z _ _
theorem xrP : ∀ {x b : List (List Int)} {i : Nat} (hx : i < x.length) (hb : i < b.length), (∀ j (h1 : j < x.length) (h2 : j < b.length), j < i → cfO x[j] b[j] = 0) → cfO x[i] b[i] ≠ 0 → cmpL x b = cfO x[i] b[i]
 | x :: r, y :: r', 0, _, _, _, h => by
  unfold cmpL
  exact if_neg h
 | x :: r, y :: r', i + 1, hx, hb, h0, h => by
  unfold cmpL
  have e : cfO x y = 0 := h0 0 (by simp) (by simp) (by omega)
  rw [if_pos e]
  exact xrP (by simpa using hx) (by simpa using hb) (fun j h1 h2 h3 => h0 (j + 1) (by simpa using h1) (by simpa using h2) (by omega)) h
theorem xui : ∀ {x b : List (List Int)}, x.length = b.length → (∀ j (h1 : j < x.length) (h2 : j < b.length), cfO x[j] b[j] = 0) → cmpL x b = 0
 | [], [], _, _ => rfl
 | x :: r, y :: r', hl, h0 => by
  unfold cmpL
  have e : cfO x y = 0 := h0 0 (by simp) (by simp)
  rw [if_pos e]
  exact xui (by simpa using hl) fun j h1 h2 => h0 (j + 1) (by simpa using h1) (by simpa using h2)
theorem xyO {list : List (List Int)} {m : Nat} {b x : List (List Int)} (hby : xaU m list = x) (hl : x.length ≤ 9223372036854775807) (hlen : x.length = b.length) :
  xaz (xbl list [.i m, .r b]) (xco list [.i m, .r b]) ∧
  (bif (xbg list [.i m, .r b]).fst.beq 1 then (1 : Int) else bif (xbg list [.i m, .r b]).fst.beq 2 then gi (xbg list [.i m, .r b]).snd 0 else (xdO list [.i m, .r b])) = cmpL x b := by
 have hs1 : xdO list [.i m, .r b] = 0 := by
  unfold xdO
  simp only [gi_z, gr_1, gr_z, hby]
  rw [decide_eq_false (by omega)]; rfl
 rw [hs1]
 obtain ⟨h1, h2⟩ := xd1 (step := xbl list [.i m, .r b]) x.length (fun i => cfO (x.getD i []) (b.getD i []) != 0) (fun i => [.i 0, .i i]) (fun i => [.i (cfO (x.getD i []) (b.getD i []))]) 1 3 [.i 0, .i x.length]
  (fun i hi => by
   unfold xbl xgr
   simp only [gi_z, gi_1, gr_1, gr_z]
   rw [hby, dlt hi, xaa (xay hi), xaa (xay hi), decide_eq_false (show ¬ ((i : Int) ≥ (b.length : Int)) by omega), cond_false, xaa (xay (by omega)), xaa (xay (by omega)), xaa (xhg _ _ _ _ _ _).1, xdh (show i < 9223372036854775807 by omega), Int.toNat_natCast]
   rfl)
  (by
   unfold xbl
   simp only [gi_z, gi_1]
   rw [hby, dnlt])
 have hi : xco list [.i m, .r b] = [.i 0, .i ((0 : Nat) : Int)] := rfl
 unfold xbg
 rw [hi]
 refine ⟨h1, ?_⟩
 rcases h2 with ⟨i, hi, hp, hn, hg⟩ | ⟨hn, hg⟩
 ·rw [hg]
  show gi [.i (cfO (x.getD i []) (b.getD i []))] 0 = _
  rw [gi_z, xbe hi, xbe (by omega)]
  refine (xrP hi (by omega) (fun j q1 q2 q3 => ?_) ?_).symm
  ·have := hn j q3
   rw [xbe q1, xbe q2] at this
   simpa using this
  ·rw [xbe hi, xbe (show i < b.length by omega)] at hp
   simpa using hp
 ·rw [hg]
  show (0 : Int) = _
  refine (xui hlen fun j q1 q2 => ?_).symm
  have := hn j q1
  rw [xbe q1, xbe q2] at this
  simpa using this
noncomputable def xd7 (list : List (List Int)) (i : Nat) (b : List (List Int)) : List (List Int) := if subB i (allF list) = true then (if xe9 (byF i list) b = true then byF i list else b) else b
noncomputable def fewF (list : List (List Int)) : List (List Int) := upto (xd7 list) (allF list + 1) (byF 0 list)
theorem cmpI (a b : Nat) : (xaj (a : Int) (b : Int) < 0 ↔ a < b) ∧ (xaj (a : Int) (b : Int) = 0 ↔ a = b) := by
 rw [cmpC]
 by_cases h1 : a < b
 ·rw [if_pos (by omega)]; omega
 ·rw [if_neg (by omega)]
  by_cases h2 : b < a
  ·rw [if_pos (by omega)]; omega
  ·rw [if_neg (by omega)]; omega
theorem xjB (m : Nat) (list : List (List Int)) : (byF m list).length ≤ list.length + 9 := by
 unfold byF
 have h1 : ∀ l : List (List Int), (ddR l).length ≤ l.length := fun l => by
  cases l with
  | nil => exact Nat.le_refl _
  | cons x r =>
   have := (xeU (x :: r) (x :: r).length (by simp) (Nat.le_refl _)).1
   rwa [List.take_length] at this
 refine Nat.le_trans (h1 _) ?_
 rw [xeO]
 unfold xim
 rw [List.length_append, List.length_map, List.length_map]
 have h1 : ((List.range 9).filter m.testBit).length ≤ 9 := Nat.le_trans (List.length_filter_le _ _) (by simp)
 have h2 := List.length_filter_le (fun g => !cov m g) list
 omega
theorem xt7 {list : List (List Int)} (hs : xeD list) (hl : list.length ≤ 1000000) : xb5 list ∧ xch list = fewF list := by
 obtain ⟨a1, a2⟩ := xBn hs hl
 obtain ⟨hall, _⟩ := xwn hs
 obtain ⟨b1, b2⟩ := xCh (m := 0) (by omega) hs hl
 have hw : IntKind.i64.wrap (gi (xdP list).snd 0 + 1) = ((allF list + 1 : Nat) : Int) := by rw [a2]; exact xdh (by omega)
 obtain ⟨g1, g2, _⟩ := xmM (step := xcp list) (allF list + 1) (fun i (b : List (List Int)) => [.i i, .r b]) (xd7 list) (fun _ _ => True) 3 (fun b => [.i (allF list + 1 : Nat), .r b]) (fun _ _ _ _ => trivial)
  (fun i b hi _ => by
   have hi5 : i < 512 := by omega
   obtain ⟨c1, c2⟩ := xCh hi5 hs hl
   have hxl := xjB i list
   unfold xcp
   simp only [gi_z, gr_1, gr_z]
   rw [hw, decide_eq_true (by omega), cond_true, a2, xBP hi5 hall, xdh (by omega)]
   unfold xd7
   cases hsub : subB i (allF list) with
   | false => rw [if_neg (by decide)]; rfl
   | true =>
    rw [if_pos rfl, Bool.not_true, cond_false, xaa c1, c2]
    have hloop : (decide (xaj (↑(byF i list).length : Int) (↑b.length : Int) < (0 : Int)) = false) → (((xaj (↑(byF i list).length : Int) (↑b.length : Int) == (0 : Int)) = true) → ((xaz (xbl list [.i i, .r b]) (xco list [.i i, .r b])))) := fun _ he => by
     have := (cmpI _ _).2.1 (by simpa using he)
     exact (xyO c2 (by omega) this).1
    rw [xaa hloop]
    have hcond : (decide (xaj (↑(byF i list).length : Int) (↑b.length : Int) < (0 : Int)) || xaj (↑(byF i list).length : Int) (↑b.length : Int) == (0 : Int) && decide ((bif (xbg list [.i i, .r b]).fst.beq 1 then (1 : Int) else bif (xbg list [.i i, .r b]).fst.beq 2 then gi (xbg list [.i i, .r b]).snd 0 else (xdO list [.i i, .r b])) < (0 : Int))) = xe9 (byF i list) b := by
     unfold xe9
     by_cases he : (byF i list).length = b.length
     ·rw [(xyO c2 (by omega) he).2]
      have e1 : (xaj (↑(byF i list).length : Int) (↑b.length : Int) == 0) = ((byF i list).length == b.length) := by rw [(cmpI _ _).2.2 he, he]; simp
      rw [e1]
      congr 1
      exact decide_eq_decide.2 (cmpI _ _).1
     ·have e1 : (xaj (↑(byF i list).length : Int) (↑b.length : Int) == 0) = false := by
       simpa using fun h => he ((cmpI _ _).2.1 h)
      have e2 : ((byF i list).length == b.length) = false := by simpa using he
      rw [e1, e2, Bool.false_and, Bool.false_and]
      congr 1
      exact decide_eq_decide.2 (cmpI _ _).1
    rw [hcond]
    cases xe9 (byF i list) b
    ·rw [if_neg (by decide)]; rfl
    ·rw [if_pos rfl]; rfl)
  (fun b _ => by
   unfold xcp
   simp only [gi_z, gr_1, gr_z]
   rw [hw, decide_eq_false (by omega)]; rfl) (s := byF 0 list) trivial
 have hi : xdl list = [.i ((0 : Nat) : Int), .r (byF 0 list)] := by
  unfold xdl
  have := b2
  rw [show (xaU (0 : Int) list) = byF 0 list from this]; rfl
 unfold xb5 xch xiO
 rw [hi]
 refine ⟨⟨a1, b1, g1⟩, ?_⟩
 rw [g2]
 show gr [.i (allF list + 1 : Nat), .r (upto (xd7 list) (allF list + 1) (byF 0 list))] 1 = _
 rw [gr_1, gr_z]
 rfl
end Go.Proofs.YtikhnofbbcmpeaaGreat
