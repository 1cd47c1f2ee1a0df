/- Several texts in one (wip/pack.py): XInq6D XInq6 XInqHD XInqH XInqS1D XInqS1 XInqS2D XInqS2 XInqOa XInqObD XInqOb XInqOcD XSyHx XInqOc XInqS4D XInqS4 XInqLFewestD XInqLFewest XInqPa XInqPb XInqPc XInqPd XInqPe XInqPf. -/
import Derived.Test.YtikhnofbbcmpeaaGreatRows
import Derived.Test.YtikhnofbbcmpeaaGreatQIF05
import Derived.Test.YtikhnofbbcmpeaaGreatQIF06
set_option maxRecDepth 100000
set_option linter.unusedVariables false
namespace Go.Proofs.YtikhnofbbcmpeaaGreat
open Go Go.Sy
noncomputable def xkz (office_Owner t delay : Int) (office_Lines ships list : List (List Int)) (y0 : List U) : List (List Int) :=
 putRow 1 [(ships.getD (gi y0 2).toNat []).getD 0 (0 : Int)]
 [(ships.getD (gi y0 2).toNat []).getD 0 (0 : Int), encL (decL ((ships.getD (gi y0 2).toNat []).getD 1 (0 : Int)))] (gr y0 3)
noncomputable def xcb (office_Owner t delay : Int) (office_Lines ships list : List (List Int)) : List U :=
 [.b (false), .i ((0 : Int)), .i ((0 : Int)), .r ([])]
noncomputable def xbg (office_Owner t delay : Int) (office_Lines ships list : List (List Int)) (y0 : List U) : Option (Nat × List U) :=
 (bif decide (gi y0 2 < (↑ships.length : Int)) then xab (inR (gi y0 2) ships) (xab (inR (gi y0 2) ships) (xab (xaE ((ships.getD (gi y0 2).toNat []).getD 0 (0 : Int)) (decL ((ships.getD (gi y0 2).toNat []).getD 1 (0 : Int)))) ((bif !xae ((ships.getD (gi y0 2).toNat []).getD 0 (0 : Int)) (decL ((ships.getD (gi y0 2).toNat []).getD 1 (0 : Int))) ||
 decide ((ships.getD (gi y0 2).toNat []).getD 0 (0 : Int) ≤ gi y0 1) then some (1, [.i (office_Owner), .i (t), .i (delay), .r (gr y0 3)]) else some (0, [.b (gb y0 0), .i ((ships.getD (gi y0 2).toNat []).getD 0 (0 : Int)), .i (IntKind.i64.wrap (gi y0 2 + (1 : Int))), .r ((xkz office_Owner t delay office_Lines ships list y0))]))))) else some (3, [.b (gb y0 0), .i (gi y0 1), .i (gi y0 2), .r (gr y0 3)]))
noncomputable def xap (office_Owner t delay : Int) (office_Lines ships list : List (List Int)) : Nat × List U := xam (xbg office_Owner t delay office_Lines ships list) (xcb office_Owner t delay office_Lines ships list)
noncomputable def xcX (office_Owner t delay : Int) (office_Lines ships list : List (List Int)) : List U :=
 [.i ((0 : Int)), .i ((0 : Int))]
noncomputable def xbf (office_Owner t delay : Int) (office_Lines ships list : List (List Int)) (y1 : List U) : Option (Nat × List U) :=
 (bif decide (gi y1 1 < (↑list.length : Int)) then xab (inR (gi y1 1) list) (xab (inR (gi y1 1) list) ((bif !(xbR 1 [(list.getD (gi y1 1).toNat []).getD 0 (0 : Int)] (gr (xap office_Owner t delay office_Lines ships list).snd 3)).isSome then some (1, [.i (gi y1 1)]) else some (0, [.i (gi y1 0), .i (IntKind.i64.wrap (gi y1 1 + (1 : Int)))])))) else some (3, [.i (gi y1 0), .i (gi y1 1)]))
noncomputable def xbG (office_Owner t delay : Int) (office_Lines ships list : List (List Int)) : Nat × List U := xam (xbf office_Owner t delay office_Lines ships list) (xcX office_Owner t delay office_Lines ships list)
noncomputable def xhx (office_Owner t delay : Int) (office_Lines ships list : List (List Int)) (y2 : List U) : List Int :=
 [((xal office_Owner t delay office_Lines (gr (xap office_Owner t delay office_Lines ships list).snd 3) list).getD (gi y2 0).toNat []).getD 0 (0 : Int),
 ((xal office_Owner t delay office_Lines (gr (xap office_Owner t delay office_Lines ships list).snd 3) list).getD (gi y2 0).toNat []).getD 1 (0 : Int)]
noncomputable def xgX (office_Owner t delay : Int) (office_Lines ships list : List (List Int)) : List U :=
 [.i ((0 : Int)), .r ([])]
noncomputable def xca (office_Owner t delay : Int) (office_Lines ships list : List (List Int)) (y2 : List U) : Option (Nat × List U) :=
 (bif decide (gi y2 0 < (↑(xal office_Owner t delay office_Lines (gr (xap office_Owner t delay office_Lines ships list).snd 3) list).length : Int)) then xab (inR (gi y2 0) (xal office_Owner t delay office_Lines (gr (xap office_Owner t delay office_Lines ships list).snd 3) list)) (xab (inR (gi y2 0) (xal office_Owner t delay office_Lines (gr (xap office_Owner t delay office_Lines ships list).snd 3) list)) (xab (xbl 16 ((gr y2 1).length + [(xhx office_Owner t delay office_Lines ships list y2)].length)) (some (0, [.i (IntKind.i64.wrap (gi y2 0 + (1 : Int))), .r (gr y2 1 ++ [(xhx office_Owner t delay office_Lines ships list y2)])])))) else some (2, [.i (gi y2 0), .r (gr y2 1)]))
noncomputable def xkA (office_Owner t delay : Int) (office_Lines ships list : List (List Int)) : Nat × List U := xam (xca office_Owner t delay office_Lines ships list) (xgX office_Owner t delay office_Lines ships list)
noncomputable def xky (office_Owner t delay : Int) (office_Lines ships list : List (List Int)) : List (List Int) :=
 bif !!decide ((bif (xbG office_Owner t delay office_Lines ships list).fst.beq 1 then gi (xbG office_Owner t delay office_Lines ships list).snd 0 else (-1 : Int)) ≥ (0 : Int)) then [] else gr (xkA office_Owner t delay office_Lines ships list).snd 1
noncomputable def xkx (office_Owner t delay : Int) (office_Lines ships list : List (List Int)) : List (List Int) :=
 bif !xae office_Owner office_Lines || office_Owner != (0 : Int) || !xay list || !xau t || decide (delay < (0 : Int)) || decide (delay > (100000 : Int)) then []
else bif (xap office_Owner t delay office_Lines ships list).fst.beq 1 then [] else (xky office_Owner t delay office_Lines ships list)
noncomputable def xeg (office_Owner t delay : Int) (office_Lines ships list : List (List Int)) : List (List Int) :=
 (xkx office_Owner t delay office_Lines ships list)
noncomputable def xkw (office_Owner t delay : Int) (office_Lines ships list : List (List Int)) : Int :=
 bif !!decide ((bif (xbG office_Owner t delay office_Lines ships list).fst.beq 1 then gi (xbG office_Owner t delay office_Lines ships list).snd 0 else (-1 : Int)) ≥ (0 : Int)) then (1 : Int) else (0 : Int)
noncomputable def xkv (office_Owner t delay : Int) (office_Lines ships list : List (List Int)) : Int :=
 bif !xae office_Owner office_Lines || office_Owner != (0 : Int) || !xay list || !xau t || decide (delay < (0 : Int)) || decide (delay > (100000 : Int)) then
 (1 : Int)
else bif (xap office_Owner t delay office_Lines ships list).fst.beq 1 then (1 : Int) else (xkw office_Owner t delay office_Lines ships list)
noncomputable def xef (office_Owner t delay : Int) (office_Lines ships list : List (List Int)) : Int :=
 (xkv office_Owner t delay office_Lines ships list)
def xcS (office_Owner t delay : Int) (office_Lines ships list : List (List Int)) : Prop :=
 ((xaE office_Owner office_Lines) ∧ ((((!xae office_Owner office_Lines || office_Owner != (0 : Int)) = false) → (xbv list)) ∧ (((!xae office_Owner office_Lines || office_Owner != (0 : Int) || !xay list || !xau t || decide (delay < (0 : Int)) || decide (delay > (100000 : Int))) = false) → (((xax (xbg office_Owner t delay office_Lines ships list) (xcb office_Owner t delay office_Lines ships list))) ∧ (((xap office_Owner t delay office_Lines ships list).fst.beq 1 = false) → (((xax (xbf office_Owner t delay office_Lines ships list) (xcX office_Owner t delay office_Lines ships list))) ∧ (((!!decide ((bif (xbG office_Owner t delay office_Lines ships list).fst.beq 1 then gi (xbG office_Owner t delay office_Lines ships list).snd 0 else (-1 : Int)) ≥ (0 : Int))) = false) → ((xcT office_Owner t delay office_Lines (gr (xap office_Owner t delay office_Lines ships list).snd 3) list) ∧ ((xax (xca office_Owner t delay office_Lines ships list) (xgX office_Owner t delay office_Lines ships list)))))))))))
noncomputable def xmV (office_Owner t delay : Int) (office_Lines ships list : List (List Int)) (y0 : List U) : List (List Int) :=
 putRow 1 [(ships.getD (gi y0 2).toNat []).getD 0 (0 : Int)]
 [(ships.getD (gi y0 2).toNat []).getD 0 (0 : Int), encL (decL ((ships.getD (gi y0 2).toNat []).getD 1 (0 : Int)))] (gr y0 3)
noncomputable def xd3 (office_Owner t delay : Int) (office_Lines ships list : List (List Int)) : List U :=
 [.b (false), .i ((0 : Int)), .i ((0 : Int)), .r ([])]
noncomputable def xd2 (office_Owner t delay : Int) (office_Lines ships list : List (List Int)) (y0 : List U) : Option (Nat × List U) :=
 (bif decide (gi y0 2 < (↑ships.length : Int)) then xab (inR (gi y0 2) ships) (xab (inR (gi y0 2) ships) (xab (xaE ((ships.getD (gi y0 2).toNat []).getD 0 (0 : Int)) (decL ((ships.getD (gi y0 2).toNat []).getD 1 (0 : Int)))) ((bif !xae ((ships.getD (gi y0 2).toNat []).getD 0 (0 : Int)) (decL ((ships.getD (gi y0 2).toNat []).getD 1 (0 : Int))) ||
 decide ((ships.getD (gi y0 2).toNat []).getD 0 (0 : Int) ≤ gi y0 1) then some (1, [.i (office_Owner), .i (t), .i (delay), .r (gr y0 3)]) else some (0, [.b (gb y0 0), .i ((ships.getD (gi y0 2).toNat []).getD 0 (0 : Int)), .i (IntKind.i64.wrap (gi y0 2 + (1 : Int))), .r ((xmV office_Owner t delay office_Lines ships list y0))]))))) else some (3, [.b (gb y0 0), .i (gi y0 1), .i (gi y0 2), .r (gr y0 3)]))
noncomputable def xaO (office_Owner t delay : Int) (office_Lines ships list : List (List Int)) : Nat × List U := xam (xd2 office_Owner t delay office_Lines ships list) (xd3 office_Owner t delay office_Lines ships list)
noncomputable def xd1 (office_Owner t delay : Int) (office_Lines ships list : List (List Int)) : List U :=
 [.i ((0 : Int)), .i ((0 : Int))]
noncomputable def xd0 (office_Owner t delay : Int) (office_Lines ships list : List (List Int)) (y1 : List U) : Option (Nat × List U) :=
 (bif decide (gi y1 1 < (↑list.length : Int)) then xab (inR (gi y1 1) list) (xab (inR (gi y1 1) list) ((bif !(xbR 1 [(list.getD (gi y1 1).toNat []).getD 0 (0 : Int)] (gr (xaO office_Owner t delay office_Lines ships list).snd 3)).isSome then some (1, [.i (gi y1 1)]) else some (0, [.i (gi y1 0), .i (IntKind.i64.wrap (gi y1 1 + (1 : Int)))])))) else some (3, [.i (gi y1 0), .i (gi y1 1)]))
noncomputable def xbq (office_Owner t delay : Int) (office_Lines ships list : List (List Int)) : Nat × List U := xam (xd0 office_Owner t delay office_Lines ships list) (xd1 office_Owner t delay office_Lines ships list)
noncomputable def xhX (office_Owner t delay : Int) (office_Lines ships list : List (List Int)) : List (List Int) :=
 bif !!decide ((bif (xbq office_Owner t delay office_Lines ships list).fst.beq 1 then gi (xbq office_Owner t delay office_Lines ships list).snd 0 else (-1 : Int)) ≥ (0 : Int)) then []
else xce (xal office_Owner t delay office_Lines (gr (xaO office_Owner t delay office_Lines ships list).snd 3) list)
noncomputable def xhW (office_Owner t delay : Int) (office_Lines ships list : List (List Int)) : List (List Int) :=
 bif !xae office_Owner office_Lines || office_Owner != (0 : Int) || !xay list || !xau t || decide (delay < (0 : Int)) || decide (delay > (100000 : Int)) then []
else bif (xaO office_Owner t delay office_Lines ships list).fst.beq 1 then [] else (xhX office_Owner t delay office_Lines ships list)
noncomputable def xa7 (office_Owner t delay : Int) (office_Lines ships list : List (List Int)) : List (List Int) :=
 (xhW office_Owner t delay office_Lines ships list)
noncomputable def xhV (office_Owner t delay : Int) (office_Lines ships list : List (List Int)) : List (List Int) :=
 bif !!decide ((bif (xbq office_Owner t delay office_Lines ships list).fst.beq 1 then gi (xbq office_Owner t delay office_Lines ships list).snd 0 else (-1 : Int)) ≥ (0 : Int)) then []
else
 xxV (↑(xce (xal office_Owner t delay office_Lines (gr (xaO office_Owner t delay office_Lines ships list).snd 3) list)).length : Int)
  (xal office_Owner t delay office_Lines (gr (xaO office_Owner t delay office_Lines ships list).snd 3) list)
noncomputable def xhU (office_Owner t delay : Int) (office_Lines ships list : List (List Int)) : List (List Int) :=
 bif !xae office_Owner office_Lines || office_Owner != (0 : Int) || !xay list || !xau t || decide (delay < (0 : Int)) || decide (delay > (100000 : Int)) then []
else bif (xaO office_Owner t delay office_Lines ships list).fst.beq 1 then [] else (xhV office_Owner t delay office_Lines ships list)
noncomputable def xdd (office_Owner t delay : Int) (office_Lines ships list : List (List Int)) : List (List Int) :=
 (xhU office_Owner t delay office_Lines ships list)
noncomputable def xhT (office_Owner t delay : Int) (office_Lines ships list : List (List Int)) : Int :=
 bif !!decide ((bif (xbq office_Owner t delay office_Lines ships list).fst.beq 1 then gi (xbq office_Owner t delay office_Lines ships list).snd 0 else (-1 : Int)) ≥ (0 : Int)) then (1 : Int) else (0 : Int)
noncomputable def xhS (office_Owner t delay : Int) (office_Lines ships list : List (List Int)) : Int :=
 bif !xae office_Owner office_Lines || office_Owner != (0 : Int) || !xay list || !xau t || decide (delay < (0 : Int)) || decide (delay > (100000 : Int)) then
 (1 : Int)
else bif (xaO office_Owner t delay office_Lines ships list).fst.beq 1 then (1 : Int) else (xhT office_Owner t delay office_Lines ships list)
noncomputable def xbQ (office_Owner t delay : Int) (office_Lines ships list : List (List Int)) : Int :=
 (xhS office_Owner t delay office_Lines ships list)
def xbw (office_Owner t delay : Int) (office_Lines ships list : List (List Int)) : Prop :=
 ((xaE office_Owner office_Lines) ∧ ((((!xae office_Owner office_Lines || office_Owner != (0 : Int)) = false) → (xbv list)) ∧ (((!xae office_Owner office_Lines || office_Owner != (0 : Int) || !xay list || !xau t || decide (delay < (0 : Int)) || decide (delay > (100000 : Int))) = false) → (((xax (xd2 office_Owner t delay office_Lines ships list) (xd3 office_Owner t delay office_Lines ships list))) ∧ (((xaO office_Owner t delay office_Lines ships list).fst.beq 1 = false) → (((xax (xd0 office_Owner t delay office_Lines ships list) (xd1 office_Owner t delay office_Lines ships list))) ∧ (((!!decide ((bif (xbq office_Owner t delay office_Lines ships list).fst.beq 1 then gi (xbq office_Owner t delay office_Lines ships list).snd 0 else (-1 : Int)) ≥ (0 : Int))) = false) → ((xcT office_Owner t delay office_Lines (gr (xaO office_Owner t delay office_Lines ships list).snd 3) list) ∧ ((xb2 (xal office_Owner t delay office_Lines (gr (xaO office_Owner t delay office_Lines ships list).snd 3) list)) ∧ (xtt (↑(xce (xal office_Owner t delay office_Lines (gr (xaO office_Owner t delay office_Lines ships list).snd 3) list)).length : Int)
 (xal office_Owner t delay office_Lines (gr (xaO office_Owner t delay office_Lines ships list).snd 3) list)))))))))))
noncomputable def xnM (office_Owner t delay : Int) (office_Lines ships list omissions proof : List (List Int)) (y0 : List U) : List (List Int) :=
 putRow 1 [(ships.getD (gi y0 2).toNat []).getD 0 (0 : Int)]
 [(ships.getD (gi y0 2).toNat []).getD 0 (0 : Int), encL (decL ((ships.getD (gi y0 2).toNat []).getD 1 (0 : Int)))] (gr y0 3)
noncomputable def xex (office_Owner t delay : Int) (office_Lines ships list omissions proof : List (List Int)) : List U :=
 [.b (false), .i ((0 : Int)), .i ((0 : Int)), .r ([])]
noncomputable def xew (office_Owner t delay : Int) (office_Lines ships list omissions proof : List (List Int)) (y0 : List U) : Option (Nat × List U) :=
 (bif decide (gi y0 2 < (↑ships.length : Int)) then xab (inR (gi y0 2) ships) (xab (inR (gi y0 2) ships) (xab (xaE ((ships.getD (gi y0 2).toNat []).getD 0 (0 : Int)) (decL ((ships.getD (gi y0 2).toNat []).getD 1 (0 : Int)))) ((bif !xae ((ships.getD (gi y0 2).toNat []).getD 0 (0 : Int)) (decL ((ships.getD (gi y0 2).toNat []).getD 1 (0 : Int))) ||
 decide ((ships.getD (gi y0 2).toNat []).getD 0 (0 : Int) ≤ gi y0 1) then some (1, [.i (office_Owner), .i (t), .i (delay), .r (gr y0 3)]) else some (0, [.b (gb y0 0), .i ((ships.getD (gi y0 2).toNat []).getD 0 (0 : Int)), .i (IntKind.i64.wrap (gi y0 2 + (1 : Int))), .r ((xnM office_Owner t delay office_Lines ships list omissions proof y0))]))))) else some (3, [.b (gb y0 0), .i (gi y0 1), .i (gi y0 2), .r (gr y0 3)]))
noncomputable def xao (office_Owner t delay : Int) (office_Lines ships list omissions proof : List (List Int)) : Nat × List U := xam (xew office_Owner t delay office_Lines ships list omissions proof) (xex office_Owner t delay office_Lines ships list omissions proof)
noncomputable def xev (office_Owner t delay : Int) (office_Lines ships list omissions proof : List (List Int)) : List U :=
 [.i ((0 : Int)), .i ((0 : Int))]
noncomputable def xeu (office_Owner t delay : Int) (office_Lines ships list omissions proof : List (List Int)) (y1 : List U) : Option (Nat × List U) :=
 (bif decide (gi y1 1 < (↑list.length : Int)) then xab (inR (gi y1 1) list) (xab (inR (gi y1 1) list) ((bif !(xbR 1 [(list.getD (gi y1 1).toNat []).getD 0 (0 : Int)] (gr (xao office_Owner t delay office_Lines ships list omissions proof).snd 3)).isSome then some (1, [.i (gi y1 1)]) else some (0, [.i (gi y1 0), .i (IntKind.i64.wrap (gi y1 1 + (1 : Int)))])))) else some (3, [.i (gi y1 0), .i (gi y1 1)]))
noncomputable def xcu (office_Owner t delay : Int) (office_Lines ships list omissions proof : List (List Int)) : Nat × List U := xam (xeu office_Owner t delay office_Lines ships list omissions proof) (xev office_Owner t delay office_Lines ships list omissions proof)
noncomputable def xiT (office_Owner t delay : Int) (office_Lines ships list omissions proof : List (List Int)) (y2 : List U) : Int :=
 xdc ((omissions.getD (IntKind.i64.wrap (gi y2 1 - (1 : Int))).toNat []).getD 0 (0 : Int))
 ((omissions.getD (IntKind.i64.wrap (gi y2 1 - (1 : Int))).toNat []).getD 1 (0 : Int))
 ((omissions.getD (IntKind.i64.wrap (gi y2 1 - (1 : Int))).toNat []).getD 2 (0 : Int)) ((omissions.getD (gi y2 1).toNat []).getD 0 (0 : Int))
 ((omissions.getD (gi y2 1).toNat []).getD 1 (0 : Int)) ((omissions.getD (gi y2 1).toNat []).getD 2 (0 : Int))
noncomputable def xet (office_Owner t delay : Int) (office_Lines ships list omissions proof : List (List Int)) : List U :=
 [.b (false), .i ((1 : Int))]
noncomputable def xcr (office_Owner t delay : Int) (office_Lines ships list omissions proof : List (List Int)) (y2 : List U) : Option (Nat × List U) :=
 (bif decide (gi y2 1 < (↑omissions.length : Int)) then xab (inR (IntKind.i64.wrap (gi y2 1 - (1 : Int))) omissions) (xab (inR (IntKind.i64.wrap (gi y2 1 - (1 : Int))) omissions) (xab (inR (gi y2 1) omissions) (xab (inR (gi y2 1) omissions) (xab (xbM ((omissions.getD (IntKind.i64.wrap (gi y2 1 - (1 : Int))).toNat []).getD 0 (0 : Int))
 ((omissions.getD (IntKind.i64.wrap (gi y2 1 - (1 : Int))).toNat []).getD 1 (0 : Int))
 ((omissions.getD (IntKind.i64.wrap (gi y2 1 - (1 : Int))).toNat []).getD 2 (0 : Int)) ((omissions.getD (gi y2 1).toNat []).getD 0 (0 : Int))
 ((omissions.getD (gi y2 1).toNat []).getD 1 (0 : Int)) ((omissions.getD (gi y2 1).toNat []).getD 2 (0 : Int))) ((bif decide ((xiT office_Owner t delay office_Lines ships list omissions proof y2) ≥ (0 : Int)) then some (1, []) else some (0, [.b (gb y2 0), .i (IntKind.i64.wrap (gi y2 1 + (1 : Int)))]))))))) else some (3, [.b (gb y2 0), .i (gi y2 1)]))
noncomputable def xdP (office_Owner t delay : Int) (office_Lines ships list omissions proof : List (List Int)) : Nat × List U := xam (xcr office_Owner t delay office_Lines ships list omissions proof) (xet office_Owner t delay office_Lines ships list omissions proof)
noncomputable def xiS (office_Owner t delay : Int) (office_Lines ships list omissions proof : List (List Int)) (y3 : List U) : Int :=
 xeM ((proof.getD (IntKind.i64.wrap (gi y3 1 - (1 : Int))).toNat []).getD 0 (0 : Int))
 ((proof.getD (IntKind.i64.wrap (gi y3 1 - (1 : Int))).toNat []).getD 1 (0 : Int)) ((proof.getD (gi y3 1).toNat []).getD 0 (0 : Int))
 ((proof.getD (gi y3 1).toNat []).getD 1 (0 : Int))
noncomputable def xes (office_Owner t delay : Int) (office_Lines ships list omissions proof : List (List Int)) : List U :=
 [.b (false), .i ((1 : Int))]
noncomputable def xcq (office_Owner t delay : Int) (office_Lines ships list omissions proof : List (List Int)) (y3 : List U) : Option (Nat × List U) :=
 (bif decide (gi y3 1 < (↑proof.length : Int)) then xab (inR (IntKind.i64.wrap (gi y3 1 - (1 : Int))) proof) (xab (inR (IntKind.i64.wrap (gi y3 1 - (1 : Int))) proof) (xab (inR (gi y3 1) proof) (xab (inR (gi y3 1) proof) (xab (xdb ((proof.getD (IntKind.i64.wrap (gi y3 1 - (1 : Int))).toNat []).getD 0 (0 : Int))
 ((proof.getD (IntKind.i64.wrap (gi y3 1 - (1 : Int))).toNat []).getD 1 (0 : Int)) ((proof.getD (gi y3 1).toNat []).getD 0 (0 : Int))
 ((proof.getD (gi y3 1).toNat []).getD 1 (0 : Int))) ((bif decide ((xiS office_Owner t delay office_Lines ships list omissions proof y3) ≥ (0 : Int)) then some (1, []) else some (0, [.b (gb y3 0), .i (IntKind.i64.wrap (gi y3 1 + (1 : Int)))]))))))) else some (3, [.b (gb y3 0), .i (gi y3 1)]))
noncomputable def xe2 (office_Owner t delay : Int) (office_Lines ships list omissions proof : List (List Int)) : Nat × List U := xam (xcq office_Owner t delay office_Lines ships list omissions proof) (xes office_Owner t delay office_Lines ships list omissions proof)
noncomputable def xeq (office_Owner t delay : Int) (office_Lines ships list omissions proof : List (List Int)) (y4 : List U) : List U :=
 [.i ((0 : Int)), .i ((0 : Int))]
noncomputable def xcp (office_Owner t delay : Int) (office_Lines ships list omissions proof : List (List Int)) (y4 : List U) (y5 : List U) : Option (Nat × List U) :=
 (bif decide (gi y5 1 < (↑omissions.length : Int)) then xab (inR (gi y5 1) omissions) (xab (inR (gi y5 1) omissions) ((bif xgo (((xal office_Owner t delay office_Lines (gr (xao office_Owner t delay office_Lines ships list omissions proof).snd 3) list).getD (gi y4 2).toNat []).getD 0 (0 : Int))
 (((xal office_Owner t delay office_Lines (gr (xao office_Owner t delay office_Lines ships list omissions proof).snd 3) list).getD (gi y4 2).toNat []).getD 1 (0 : Int))
 (((xal office_Owner t delay office_Lines (gr (xao office_Owner t delay office_Lines ships list omissions proof).snd 3) list).getD (gi y4 2).toNat []).getD 2 (0 : Int) != (0 : Int))
 (((xal office_Owner t delay office_Lines (gr (xao office_Owner t delay office_Lines ships list omissions proof).snd 3) list).getD (gi y4 2).toNat []).getD 3 (0 : Int) != (0 : Int))
 ((omissions.getD (gi y5 1).toNat []).getD 0 (0 : Int)) ((omissions.getD (gi y5 1).toNat []).getD 1 (0 : Int))
 ((omissions.getD (gi y5 1).toNat []).getD 2 (0 : Int)) then some (1, [.i (gi y5 1)]) else some (0, [.i (gi y5 0), .i (IntKind.i64.wrap (gi y5 1 + (1 : Int)))])))) else some (3, [.i (gi y5 0), .i (gi y5 1)]))
noncomputable def xe1 (office_Owner t delay : Int) (office_Lines ships list omissions proof : List (List Int)) (y4 : List U) : Nat × List U := xam (xcp office_Owner t delay office_Lines ships list omissions proof y4) (xeq office_Owner t delay office_Lines ships list omissions proof y4)
noncomputable def xep (office_Owner t delay : Int) (office_Lines ships list omissions proof : List (List Int)) (y4 : List U) : List U :=
 [.i ((0 : Int)), .i ((0 : Int))]
noncomputable def xco (office_Owner t delay : Int) (office_Lines ships list omissions proof : List (List Int)) (y4 : List U) (y6 : List U) : Option (Nat × List U) :=
 (bif decide (gi y6 1 < (↑proof.length : Int)) then xab (inR (gi y6 1) proof) (xab (inR (gi y6 1) proof) ((bif ((xal office_Owner t delay office_Lines (gr (xao office_Owner t delay office_Lines ships list omissions proof).snd 3) list).getD (gi y4 2).toNat []).getD 0 (0 : Int) ==
  (proof.getD (gi y6 1).toNat []).getD 0 (0 : Int) &&
 (((xal office_Owner t delay office_Lines (gr (xao office_Owner t delay office_Lines ships list omissions proof).snd 3) list).getD (gi y4 2).toNat []).getD 1 (0 : Int) ==
   (proof.getD (gi y6 1).toNat []).getD 1 (0 : Int) &&
  true) then some (1, [.i (gi y6 1)]) else some (0, [.i (gi y6 0), .i (IntKind.i64.wrap (gi y6 1 + (1 : Int)))])))) else some (3, [.i (gi y6 0), .i (gi y6 1)]))
noncomputable def xe0 (office_Owner t delay : Int) (office_Lines ships list omissions proof : List (List Int)) (y4 : List U) : Nat × List U := xam (xco office_Owner t delay office_Lines ships list omissions proof y4) (xep office_Owner t delay office_Lines ships list omissions proof y4)
noncomputable def xeo (office_Owner t delay : Int) (office_Lines ships list omissions proof : List (List Int)) (y4 : List U) : List U :=
 [.i ((0 : Int)), .i ((0 : Int))]
noncomputable def xcn (office_Owner t delay : Int) (office_Lines ships list omissions proof : List (List Int)) (y4 : List U) (y7 : List U) : Option (Nat × List U) :=
 (bif decide (gi y7 1 < (↑(gr y4 3).length : Int)) then xab (inR (gi y7 1) (gr y4 3)) (xab (inR (gi y7 1) (gr y4 3)) ((bif !xfV (((xal office_Owner t delay office_Lines (gr (xao office_Owner t delay office_Lines ships list omissions proof).snd 3) list).getD (gi y4 2).toNat []).getD 0 (0 : Int))
  (((xal office_Owner t delay office_Lines (gr (xao office_Owner t delay office_Lines ships list omissions proof).snd 3) list).getD (gi y4 2).toNat []).getD 1 (0 : Int))
  (((xal office_Owner t delay office_Lines (gr (xao office_Owner t delay office_Lines ships list omissions proof).snd 3) list).getD (gi y4 2).toNat []).getD 2 (0 : Int) != (0 : Int))
  (((xal office_Owner t delay office_Lines (gr (xao office_Owner t delay office_Lines ships list omissions proof).snd 3) list).getD (gi y4 2).toNat []).getD 3 (0 : Int) != (0 : Int))
  (((gr y4 3).getD (gi y7 1).toNat []).getD 0 (0 : Int)) (((gr y4 3).getD (gi y7 1).toNat []).getD 1 (0 : Int))
  (((gr y4 3).getD (gi y7 1).toNat []).getD 2 (0 : Int) != (0 : Int)) (((gr y4 3).getD (gi y7 1).toNat []).getD 3 (0 : Int) != (0 : Int)) then some (1, [.i (gi y7 1)]) else some (0, [.i (gi y7 0), .i (IntKind.i64.wrap (gi y7 1 + (1 : Int)))])))) else some (3, [.i (gi y7 0), .i (gi y7 1)]))
noncomputable def xeZ (office_Owner t delay : Int) (office_Lines ships list omissions proof : List (List Int)) (y4 : List U) : Nat × List U := xam (xcn office_Owner t delay office_Lines ships list omissions proof y4) (xeo office_Owner t delay office_Lines ships list omissions proof y4)
noncomputable def xiR (office_Owner t delay : Int) (office_Lines ships list omissions proof : List (List Int)) (y4 : List U) : List Int :=
 [bif ((xal office_Owner t delay office_Lines (gr (xao office_Owner t delay office_Lines ships list omissions proof).snd 3) list).getD (gi y4 2).toNat []).getD 2 (0 : Int) != (0 : Int) then (1 : Int)
 else (0 : Int),
 bif ((xal office_Owner t delay office_Lines (gr (xao office_Owner t delay office_Lines ships list omissions proof).snd 3) list).getD (gi y4 2).toNat []).getD 3 (0 : Int) != (0 : Int) then (1 : Int)
 else (0 : Int)]
noncomputable def xeY (office_Owner t delay : Int) (office_Lines ships list omissions proof : List (List Int)) (y4 : List U) : List Int :=
 ((xal office_Owner t delay office_Lines (gr (xao office_Owner t delay office_Lines ships list omissions proof).snd 3) list).getD (gi y4 2).toNat []).getD 0 (0 : Int) ::
 ((xal office_Owner t delay office_Lines (gr (xao office_Owner t delay office_Lines ships list omissions proof).snd 3) list).getD (gi y4 2).toNat []).getD 1 (0 : Int) :: (xiR office_Owner t delay office_Lines ships list omissions proof y4)
noncomputable def xer (office_Owner t delay : Int) (office_Lines ships list omissions proof : List (List Int)) : List U :=
 [.b (false), .i ((0 : Int)), .i ((0 : Int)), .r ([])]
noncomputable def xbk (office_Owner t delay : Int) (office_Lines ships list omissions proof : List (List Int)) (y4 : List U) : Option (Nat × List U) :=
 (bif decide (gi y4 2 < (↑(xal office_Owner t delay office_Lines (gr (xao office_Owner t delay office_Lines ships list omissions proof).snd 3) list).length : Int)) then xab (inR (gi y4 2) (xal office_Owner t delay office_Lines (gr (xao office_Owner t delay office_Lines ships list omissions proof).snd 3) list)) (xab (inR (gi y4 2) (xal office_Owner t delay office_Lines (gr (xao office_Owner t delay office_Lines ships list omissions proof).snd 3) list)) (xab ((xax (xcp office_Owner t delay office_Lines ships list omissions proof y4) (xeq office_Owner t delay office_Lines ships list omissions proof y4))) ((bif !decide ((bif (xe1 office_Owner t delay office_Lines ships list omissions proof y4).fst.beq 1 then gi (xe1 office_Owner t delay office_Lines ships list omissions proof y4).snd 0 else (-1 : Int)) ≥ (0 : Int)) then some (1, []) else xab ((xax (xco office_Owner t delay office_Lines ships list omissions proof y4) (xep office_Owner t delay office_Lines ships list omissions proof y4))) ((bif decide ((bif (xe0 office_Owner t delay office_Lines ships list omissions proof y4).fst.beq 1 then gi (xe0 office_Owner t delay office_Lines ships list omissions proof y4).snd 0 else (-1 : Int)) ≥ (0 : Int)) then xab ((xax (xcn office_Owner t delay office_Lines ships list omissions proof y4) (xeo office_Owner t delay office_Lines ships list omissions proof y4))) ((bif decide ((bif (xeZ office_Owner t delay office_Lines ships list omissions proof y4).fst.beq 1 then gi (xeZ office_Owner t delay office_Lines ships list omissions proof y4).snd 0 else (-1 : Int)) ≥ (0 : Int)) then some (2, []) else xab (xbl 24 ((gr y4 3).length + [(xeY office_Owner t delay office_Lines ships list omissions proof y4)].length)) (some (0, [.b (gb y4 0), .i (gi y4 1), .i (IntKind.i64.wrap (gi y4 2 + (1 : Int))), .r (gr y4 3 ++ [(xeY office_Owner t delay office_Lines ships list omissions proof y4)])])))) else some (0, [.b (gb y4 0), .i (gi y4 1), .i (IntKind.i64.wrap (gi y4 2 + (1 : Int))), .r (gr y4 3)]))))))) else some (5, [.b (gb y4 0), .i (gi y4 1), .i (gi y4 2), .r (gr y4 3)]))
noncomputable def xba (office_Owner t delay : Int) (office_Lines ships list omissions proof : List (List Int)) : Nat × List U := xam (xbk office_Owner t delay office_Lines ships list omissions proof) (xer office_Owner t delay office_Lines ships list omissions proof)
noncomputable def xcR (office_Owner t delay : Int) (office_Lines ships list omissions proof : List (List Int)) : Bool :=
 bif !xae office_Owner office_Lines || office_Owner != (0 : Int) || !xay list || !xau t || decide (delay < (0 : Int)) || decide (delay > (100000 : Int)) then false
else
 bif (xao office_Owner t delay office_Lines ships list omissions proof).fst.beq 1 then false
 else
  bif !!decide ((bif (xcu office_Owner t delay office_Lines ships list omissions proof).fst.beq 1 then gi (xcu office_Owner t delay office_Lines ships list omissions proof).snd 0 else (-1 : Int)) ≥ (0 : Int)) then false
  else
   bif
     ((↑omissions.length : Int) != (↑proof.length : Int) || !bif (xdP office_Owner t delay office_Lines ships list omissions proof).fst.beq 1 then false else true) ||
      !bif (xe2 office_Owner t delay office_Lines ships list omissions proof).fst.beq 1 then false else true then
    false
   else
    bif (xba office_Owner t delay office_Lines ships list omissions proof).fst.beq 1 then false
    else bif (xba office_Owner t delay office_Lines ships list omissions proof).fst.beq 2 then false else (↑(gr (xba office_Owner t delay office_Lines ships list omissions proof).snd 3).length : Int) == (↑proof.length : Int)
noncomputable def xiQ (office_Owner t delay : Int) (office_Lines ships list omissions proof : List (List Int)) : Int :=
 bif ((↑omissions.length : Int) != (↑proof.length : Int) || !bif (xdP office_Owner t delay office_Lines ships list omissions proof).fst.beq 1 then false else true) || !bif (xe2 office_Owner t delay office_Lines ships list omissions proof).fst.beq 1 then false else true then
 (0 : Int)
else bif (xba office_Owner t delay office_Lines ships list omissions proof).fst.beq 1 then (0 : Int) else bif (xba office_Owner t delay office_Lines ships list omissions proof).fst.beq 2 then (0 : Int) else (0 : Int)
noncomputable def xiP (office_Owner t delay : Int) (office_Lines ships list omissions proof : List (List Int)) : Int :=
 bif !!decide ((bif (xcu office_Owner t delay office_Lines ships list omissions proof).fst.beq 1 then gi (xcu office_Owner t delay office_Lines ships list omissions proof).snd 0 else (-1 : Int)) ≥ (0 : Int)) then (1 : Int) else (xiQ office_Owner t delay office_Lines ships list omissions proof)
noncomputable def xiO (office_Owner t delay : Int) (office_Lines ships list omissions proof : List (List Int)) : Int :=
 bif !xae office_Owner office_Lines || office_Owner != (0 : Int) || !xay list || !xau t || decide (delay < (0 : Int)) || decide (delay > (100000 : Int)) then
 (1 : Int)
else bif (xao office_Owner t delay office_Lines ships list omissions proof).fst.beq 1 then (1 : Int) else (xiP office_Owner t delay office_Lines ships list omissions proof)
noncomputable def xdp (office_Owner t delay : Int) (office_Lines ships list omissions proof : List (List Int)) : Int :=
 (xiO office_Owner t delay office_Lines ships list omissions proof)
def xb9 (office_Owner t delay : Int) (office_Lines ships list omissions proof : List (List Int)) : Prop :=
 ((xaE office_Owner office_Lines) ∧ ((((!xae office_Owner office_Lines || office_Owner != (0 : Int)) = false) → (xbv list)) ∧ (((!xae office_Owner office_Lines || office_Owner != (0 : Int) || !xay list || !xau t || decide (delay < (0 : Int)) || decide (delay > (100000 : Int))) = false) → (((xax (xew office_Owner t delay office_Lines ships list omissions proof) (xex office_Owner t delay office_Lines ships list omissions proof))) ∧ (((xao office_Owner t delay office_Lines ships list omissions proof).fst.beq 1 = false) → (((xax (xeu office_Owner t delay office_Lines ships list omissions proof) (xev office_Owner t delay office_Lines ships list omissions proof))) ∧ (((!!decide ((bif (xcu office_Owner t delay office_Lines ships list omissions proof).fst.beq 1 then gi (xcu office_Owner t delay office_Lines ships list omissions proof).snd 0 else (-1 : Int)) ≥ (0 : Int))) = false) → (((((↑omissions.length : Int) != (↑proof.length : Int)) = false) → ((xax (xcr office_Owner t delay office_Lines ships list omissions proof) (xet office_Owner t delay office_Lines ships list omissions proof)))) ∧ (((((↑omissions.length : Int) != (↑proof.length : Int) || !bif (xdP office_Owner t delay office_Lines ships list omissions proof).fst.beq 1 then false else true) = false) → ((xax (xcq office_Owner t delay office_Lines ships list omissions proof) (xes office_Owner t delay office_Lines ships list omissions proof)))) ∧ (((((↑omissions.length : Int) != (↑proof.length : Int) || !bif (xdP office_Owner t delay office_Lines ships list omissions proof).fst.beq 1 then false else true) || !bif (xe2 office_Owner t delay office_Lines ships list omissions proof).fst.beq 1 then false else true) = false) → ((xcT office_Owner t delay office_Lines (gr (xao office_Owner t delay office_Lines ships list omissions proof).snd 3) list) ∧ ((xax (xbk office_Owner t delay office_Lines ships list omissions proof) (xer office_Owner t delay office_Lines ships list omissions proof))))))))))))))
end Go.Proofs.YtikhnofbbcmpeaaGreat
set_option maxRecDepth 100000
set_option linter.unusedVariables false
namespace Go.Proofs.YtikhnofbbcmpeaaGreat
open Go Go.Sy
theorem xo6 (office_Owner t delay : Int) (office_Lines ships list : List (List Int)) : xas Tryz.prog 3 (xa1 Tryz.prog K31 xcQ 9 22 [.agg [.int .i64 office_Owner, .sl 0], .sl 1, .sl 2, .int .i64 t, .int .i64 delay] ⟨[⟨0, 3, false, .row 29 [.int .i64, .int .i64, .int .i64, .int .u64] office_Lines⟩, ⟨1, 3, false, .nst 24 [.c (.int .i64), .s 29 [.int .i64, .int .i64, .int .i64, .int .u64]] ships⟩, ⟨2, 3, false, .row 41 [.int .i64, .int .i64, .int .i64] list⟩], 3⟩) = some ⟨some (xcS office_Owner t delay office_Lines ships list), [], 1, [⟨3, 3, true, .row 52 [.int .i64, .int .i64] (xeg office_Owner t delay office_Lines ships list)⟩], .tup [.sl 3, .int .i64 (xef office_Owner t delay office_Lines ships list)]⟩ := by kernel_rfl
noncomputable def xjP : List U → Option Eff
 | [.i office_Owner, .i t, .i delay, .r office_Lines, .r ships, .r list] => some ⟨some (xcS office_Owner t delay office_Lines ships list), [], 1, [⟨3, 3, true, .row 52 [.int .i64, .int .i64] (xeg office_Owner t delay office_Lines ships list)⟩], .tup [.sl 3, .int .i64 (xef office_Owner t delay office_Lines ships list)]⟩
 | _ => Option.none
noncomputable def K32 : Con := ext Tryz.prog K31 22 [.agg [.int .i64 0, .sl 0], .sl 1, .sl 2, .int .i64 0, .int .i64 0] [⟨0, 0, false, .row 29 [.int .i64, .int .i64, .int .i64, .int .u64] []⟩, ⟨1, 0, false, .nst 24 [.c (.int .i64), .s 29 [.int .i64, .int .i64, .int .i64, .int .u64]] []⟩, ⟨2, 0, false, .row 41 [.int .i64, .int .i64, .int .i64] []⟩] xjP
theorem xCY : xbc Tryz.prog K32 := xav xaB xCZ (n := 9) rfl rfl fun us x h => by
 unfold xjP at h
 split at h
 ·cases h; exact ⟨some (xcS _ _ _ _ _ _), xo6 _ _ _ _ _ _, fun h => h⟩
 ·cases h
theorem xl1 (office_Owner t delay : Int) (office_Lines ships list : List (List Int)) : xas Tryz.prog 3 (xa1 Tryz.prog K32 xcQ 9 24 [.agg [.int .i64 office_Owner, .sl 0], .sl 1, .sl 2, .int .i64 t, .int .i64 delay] ⟨[⟨0, 3, false, .row 29 [.int .i64, .int .i64, .int .i64, .int .u64] office_Lines⟩, ⟨1, 3, false, .nst 24 [.c (.int .i64), .s 29 [.int .i64, .int .i64, .int .i64, .int .u64]] ships⟩, ⟨2, 3, false, .row 41 [.int .i64, .int .i64, .int .i64] list⟩], 3⟩) = some ⟨some (xbw office_Owner t delay office_Lines ships list), [], 2, [⟨3, 3, true, .row 80 [.int .i64, .int .i64, .int .i64] (xa7 office_Owner t delay office_Lines ships list)⟩, ⟨4, 3, true, .row 52 [.int .i64, .int .i64] (xdd office_Owner t delay office_Lines ships list)⟩], .tup [.sl 3, .sl 4, .int .i64 (xbQ office_Owner t delay office_Lines ships list)]⟩ := by kernel_rfl
noncomputable def xhy : List U → Option Eff
 | [.i office_Owner, .i t, .i delay, .r office_Lines, .r ships, .r list] => some ⟨some (xbw office_Owner t delay office_Lines ships list), [], 2, [⟨3, 3, true, .row 80 [.int .i64, .int .i64, .int .i64] (xa7 office_Owner t delay office_Lines ships list)⟩, ⟨4, 3, true, .row 52 [.int .i64, .int .i64] (xdd office_Owner t delay office_Lines ships list)⟩], .tup [.sl 3, .sl 4, .int .i64 (xbQ office_Owner t delay office_Lines ships list)]⟩
 | _ => Option.none
noncomputable def K33 : Con := ext Tryz.prog K32 24 [.agg [.int .i64 0, .sl 0], .sl 1, .sl 2, .int .i64 0, .int .i64 0] [⟨0, 0, false, .row 29 [.int .i64, .int .i64, .int .i64, .int .u64] []⟩, ⟨1, 0, false, .nst 24 [.c (.int .i64), .s 29 [.int .i64, .int .i64, .int .i64, .int .u64]] []⟩, ⟨2, 0, false, .row 41 [.int .i64, .int .i64, .int .i64] []⟩] xhy
theorem xCX : xbc Tryz.prog K33 := xav xaB xCY (n := 9) rfl rfl fun us x h => by
 unfold xhy at h
 split at h
 ·cases h; exact ⟨some (xbw _ _ _ _ _ _), xl1 _ _ _ _ _ _, fun h => h⟩
 ·cases h
theorem xmU (office_Owner t delay : Int) (office_Lines ships list omissions proof : List (List Int)) : xas Tryz.prog 5 (xa1 Tryz.prog K33 xcQ 9 28 [.agg [.int .i64 office_Owner, .sl 0], .sl 1, .sl 2, .int .i64 t, .int .i64 delay, .sl 3, .sl 4] ⟨[⟨0, 5, false, .row 29 [.int .i64, .int .i64, .int .i64, .int .u64] office_Lines⟩, ⟨1, 5, false, .nst 24 [.c (.int .i64), .s 29 [.int .i64, .int .i64, .int .i64, .int .u64]] ships⟩, ⟨2, 5, false, .row 41 [.int .i64, .int .i64, .int .i64] list⟩, ⟨3, 5, false, .row 80 [.int .i64, .int .i64, .int .i64] omissions⟩, ⟨4, 5, false, .row 52 [.int .i64, .int .i64] proof⟩], 5⟩) = some ⟨some (xb9 office_Owner t delay office_Lines ships list omissions proof), [], 0, [], .tup [.bool (xcR office_Owner t delay office_Lines ships list omissions proof), .int .i64 (xdp office_Owner t delay office_Lines ships list omissions proof)]⟩ := by kernel_rfl
noncomputable def xhR : List U → Option Eff
 | [.i office_Owner, .i t, .i delay, .r office_Lines, .r ships, .r list, .r omissions, .r proof] => some ⟨some (xb9 office_Owner t delay office_Lines ships list omissions proof), [], 0, [], .tup [.bool (xcR office_Owner t delay office_Lines ships list omissions proof), .int .i64 (xdp office_Owner t delay office_Lines ships list omissions proof)]⟩
 | _ => Option.none
noncomputable def K34 : Con := ext Tryz.prog K33 28 [.agg [.int .i64 0, .sl 0], .sl 1, .sl 2, .int .i64 0, .int .i64 0, .sl 3, .sl 4] [⟨0, 0, false, .row 29 [.int .i64, .int .i64, .int .i64, .int .u64] []⟩, ⟨1, 0, false, .nst 24 [.c (.int .i64), .s 29 [.int .i64, .int .i64, .int .i64, .int .u64]] []⟩, ⟨2, 0, false, .row 41 [.int .i64, .int .i64, .int .i64] []⟩, ⟨3, 0, false, .row 80 [.int .i64, .int .i64, .int .i64] []⟩, ⟨4, 0, false, .row 52 [.int .i64, .int .i64] []⟩] xhR
theorem xCW : xbc Tryz.prog K34 := xav xaB xCX (n := 9) rfl rfl fun us x h => by
 unfold xhR at h
 split at h
 ·cases h; exact ⟨some (xb9 _ _ _ _ _ _ _ _), xmU _ _ _ _ _ _ _ _, fun h => h⟩
 ·cases h
end Go.Proofs.YtikhnofbbcmpeaaGreat
set_option maxRecDepth 100000
set_option linter.unusedVariables false
namespace Go.Proofs.YtikhnofbbcmpeaaGreat
open Go Go.Sy
noncomputable def xfL (a b : List (List Int)) : List U :=
 [.b (false), .i ((0 : Int))]
noncomputable def xds (a b : List (List Int)) (y0 : List U) : Option (Nat × List U) :=
 (bif decide (gi y0 1 < (↑a.length : Int)) then xab (inR (gi y0 1) a) (xab (inR (gi y0 1) a) (xab (inR (gi y0 1) b) (xab (inR (gi y0 1) b) ((bif (a.getD (gi y0 1).toNat []).getD 0 (0 : Int) != (b.getD (gi y0 1).toNat []).getD 0 (0 : Int) then some (1, []) else some (0, [.b (gb y0 0), .i (IntKind.i64.wrap (gi y0 1 + (1 : Int)))])))))) else some (3, [.b (gb y0 0), .i (gi y0 1)]))
noncomputable def xsl (a b : List (List Int)) : Nat × List U := xam (xds a b) (xfL a b)
noncomputable def xdT (a b : List (List Int)) : Bool :=
 bif (↑a.length : Int) != (↑b.length : Int) then false else bif (xsl a b).fst.beq 1 then false else true
def xdA (a b : List (List Int)) : Prop :=
 ((((↑a.length : Int) != (↑b.length : Int)) = false) → ((xax (xds a b) (xfL a b))))
noncomputable def xej (a b : List (List Int)) : List U :=
 [.b (false), .i ((0 : Int))]
noncomputable def xci (a b : List (List Int)) (y0 : List U) : Option (Nat × List U) :=
 (bif decide (gi y0 1 < (↑a.length : Int)) then xab (inR (gi y0 1) a) (xab (inR (gi y0 1) a) (xab (inR (gi y0 1) b) (xab (inR (gi y0 1) b) ((bif !((a.getD (gi y0 1).toNat []).getD 0 (0 : Int) == (b.getD (gi y0 1).toNat []).getD 0 (0 : Int) &&
  ((a.getD (gi y0 1).toNat []).getD 1 (0 : Int) == (b.getD (gi y0 1).toNat []).getD 1 (0 : Int) && true)) then some (1, []) else some (0, [.b (gb y0 0), .i (IntKind.i64.wrap (gi y0 1 + (1 : Int)))])))))) else some (3, [.b (gb y0 0), .i (gi y0 1)]))
noncomputable def xnu (a b : List (List Int)) : Nat × List U := xam (xci a b) (xej a b)
noncomputable def xbI (a b : List (List Int)) : Bool :=
 bif (↑a.length : Int) != (↑b.length : Int) then false else bif (xnu a b).fst.beq 1 then false else true
def xbY (a b : List (List Int)) : Prop :=
 ((((↑a.length : Int) != (↑b.length : Int)) = false) → ((xax (xci a b) (xej a b))))
noncomputable def xdf (a b : List (List Int)) : List U :=
 [.b (false), .i ((0 : Int))]
noncomputable def xbu (a b : List (List Int)) (y0 : List U) : Option (Nat × List U) :=
 (bif decide (gi y0 1 < (↑a.length : Int)) then xab (inR (gi y0 1) a) (xab (inR (gi y0 1) a) (xab (inR (gi y0 1) b) (xab (inR (gi y0 1) b) ((bif !((a.getD (gi y0 1).toNat []).getD 0 (0 : Int) == (b.getD (gi y0 1).toNat []).getD 0 (0 : Int) &&
  ((a.getD (gi y0 1).toNat []).getD 1 (0 : Int) == (b.getD (gi y0 1).toNat []).getD 1 (0 : Int) &&
   ((a.getD (gi y0 1).toNat []).getD 2 (0 : Int) == (b.getD (gi y0 1).toNat []).getD 2 (0 : Int) && true))) then some (1, []) else some (0, [.b (gb y0 0), .i (IntKind.i64.wrap (gi y0 1 + (1 : Int)))])))))) else some (3, [.b (gb y0 0), .i (gi y0 1)]))
noncomputable def xj1 (a b : List (List Int)) : Nat × List U := xam (xbu a b) (xdf a b)
noncomputable def xbN (a b : List (List Int)) : Bool :=
 bif (↑a.length : Int) != (↑b.length : Int) then false else bif (xj1 a b).fst.beq 1 then false else true
def xby (a b : List (List Int)) : Prop :=
 ((((↑a.length : Int) != (↑b.length : Int)) = false) → ((xax (xbu a b) (xdf a b))))
noncomputable def xoy (owner : Int) (lines : List (List Int)) (y0 : List U) : Int :=
 xfW (gi y0 1) ((lines.getD (gi y0 0).toNat []).getD 0 (0 : Int)) ((lines.getD (gi y0 0).toNat []).getD 1 (0 : Int))
 ((lines.getD (gi y0 0).toNat []).getD 2 (0 : Int)) (gr y0 2)
noncomputable def xox (owner : Int) (lines : List (List Int)) (y0 : List U) : Int :=
 xfX (gi y0 1) ((lines.getD (gi y0 0).toNat []).getD 0 (0 : Int)) ((lines.getD (gi y0 0).toNat []).getD 1 (0 : Int))
 ((lines.getD (gi y0 0).toNat []).getD 2 (0 : Int)) (gr y0 2)
noncomputable def xow (owner : Int) (lines : List (List Int)) (y0 : List U) : List (List Int) :=
 xfY (gi y0 1) ((lines.getD (gi y0 0).toNat []).getD 0 (0 : Int)) ((lines.getD (gi y0 0).toNat []).getD 1 (0 : Int))
 ((lines.getD (gi y0 0).toNat []).getD 2 (0 : Int)) (gr y0 2)
noncomputable def xiD (owner : Int) (lines : List (List Int)) : List U :=
 [.i ((0 : Int)), .i (owner), .r ([])]
noncomputable def xda (owner : Int) (lines : List (List Int)) (y0 : List U) : Option (Nat × List U) :=
 (bif decide (gi y0 0 < (↑lines.length : Int)) then xab (inR (gi y0 0) lines) (xab (inR (gi y0 0) lines) (xab (inR (gi y0 0) lines) (xab (inR (gi y0 0) lines) (xab (inR (gi y0 0) lines) (xab (inR (gi y0 0) lines) (xab (inR (gi y0 0) lines) (xab (inR (gi y0 0) lines) (xab (inR (gi y0 0) lines) (xab (xeP (gi y0 1) ((lines.getD (gi y0 0).toNat []).getD 0 (0 : Int)) ((lines.getD (gi y0 0).toNat []).getD 1 (0 : Int))
 ((lines.getD (gi y0 0).toNat []).getD 2 (0 : Int)) (gr y0 2)) ((bif (xoy owner lines y0) != (0 : Int) then some (1, [.i (gi y0 1), .r (gr y0 2)]) else some (0, [.i (IntKind.i64.wrap (gi y0 0 + (1 : Int))), .i ((xox owner lines y0)), .r ((xow owner lines y0))])))))))))))) else some (3, [.i (gi y0 0), .i (gi y0 1), .r (gr y0 2)]))
noncomputable def xgH (owner : Int) (lines : List (List Int)) : Nat × List U := xam (xda owner lines) (xiD owner lines)
noncomputable def xad (owner : Int) (lines : List (List Int)) : List (List Int) :=
 bif (xgH owner lines).fst.beq 1 then [] else gr (xgH owner lines).snd 2
noncomputable def xac (owner : Int) (lines : List (List Int)) : Int :=
 bif (xgH owner lines).fst.beq 1 then (0 : Int) else gi (xgH owner lines).snd 1
def xbJ (owner : Int) (lines : List (List Int)) : Prop :=
 ((xax (xda owner lines) (xiD owner lines)))
noncomputable def xag  : List (List Int) :=
 [[(5 : Int), (4 : Int), (0 : Int)], [(20 : Int), (5 : Int), (0 : Int)], [(40 : Int), (2 : Int), (9 : Int)]]
noncomputable def xaC  : List Int :=
 [xac (1 : Int) [[(12 : Int), (3 : Int), (7 : Int)]], encL (xad (1 : Int) [[(12 : Int), (3 : Int), (7 : Int)]])]
noncomputable def xaJ  : List Int :=
 [(xaC), [xac (2 : Int) [], encL (xad (2 : Int) [])], [xac (3 : Int) ((xag)), encL (xad (3 : Int) ((xag)))]].getD
 (Int.toNat (0 : Int)) []
noncomputable def xa0  : List (List Int) :=
 [[(3 : Int), (7 : Int), (10 : Int)], [(2 : Int), (9 : Int), (30 : Int)], [(3 : Int), (9 : Int), (30 : Int)]]
noncomputable def xbn  : List Int :=
 [(xaC), [xac (2 : Int) [], encL (xad (2 : Int) [])], [xac (3 : Int) ((xag)), encL (xad (3 : Int) ((xag)))]].getD
 (Int.toNat (2 : Int)) []
noncomputable def xcZ  : List (List Int) :=
 xa7 (xac (0 : Int) [[(10 : Int), (1 : Int), (7 : Int)]]) (50 : Int) (5 : Int) (xad (0 : Int) [[(10 : Int), (1 : Int), (7 : Int)]])
 [(xaC), [xac (2 : Int) [], encL (xad (2 : Int) [])], [xac (3 : Int) ((xag)), encL (xad (3 : Int) ((xag)))]]
 ([(1 : Int), (7 : Int), (10 : Int)] :: [(2 : Int), (7 : Int), (10 : Int)] :: (xa0))
noncomputable def xcx  : List (List Int) :=
 xdd (xac (0 : Int) [[(10 : Int), (1 : Int), (7 : Int)]]) (50 : Int) (5 : Int) (xad (0 : Int) [[(10 : Int), (1 : Int), (7 : Int)]])
 [(xaC), [xac (2 : Int) [], encL (xad (2 : Int) [])], [xac (3 : Int) ((xag)), encL (xad (3 : Int) ((xag)))]]
 ([(1 : Int), (7 : Int), (10 : Int)] :: [(2 : Int), (7 : Int), (10 : Int)] :: (xa0))
noncomputable def xg4  : Int :=
 xcH (xac (0 : Int) [[(10 : Int), (1 : Int), (7 : Int)]]) (((xaJ)).getD 0 (0 : Int)) (10 : Int) (xad (0 : Int) [[(10 : Int), (1 : Int), (7 : Int)]])
 (decL (((xaJ)).getD 1 (0 : Int))) ([(1 : Int), (7 : Int), (10 : Int)] :: [(2 : Int), (7 : Int), (10 : Int)] :: (xa0))
noncomputable def xg3  : Int :=
 xcH (xac (0 : Int) [[(10 : Int), (1 : Int), (7 : Int)]]) (((xbn)).getD 0 (0 : Int)) (10 : Int) (xad (0 : Int) [[(10 : Int), (1 : Int), (7 : Int)]])
 (decL (((xbn)).getD 1 (0 : Int))) ([(1 : Int), (7 : Int), (10 : Int)] :: [(2 : Int), (7 : Int), (10 : Int)] :: (xa0))
noncomputable def xg2  : Int :=
 xef (xac (0 : Int) [[(10 : Int), (1 : Int), (7 : Int)]]) (50 : Int) (5 : Int) (xad (0 : Int) [[(10 : Int), (1 : Int), (7 : Int)]])
 [(xaC), [xac (2 : Int) [], encL (xad (2 : Int) [])], [xac (3 : Int) ((xag)), encL (xad (3 : Int) ((xag)))]]
 ([(1 : Int), (7 : Int), (10 : Int)] :: [(2 : Int), (7 : Int), (10 : Int)] :: (xa0))
noncomputable def xgz  : Int :=
 xbQ (xac (0 : Int) [[(10 : Int), (1 : Int), (7 : Int)]]) (50 : Int) (5 : Int) (xad (0 : Int) [[(10 : Int), (1 : Int), (7 : Int)]])
 [(xaC), [xac (2 : Int) [], encL (xad (2 : Int) [])], [xac (3 : Int) ((xag)), encL (xad (3 : Int) ((xag)))]]
 ([(1 : Int), (7 : Int), (10 : Int)] :: [(2 : Int), (7 : Int), (10 : Int)] :: (xa0))
noncomputable def xgy  : Int :=
 xdp (xac (0 : Int) [[(10 : Int), (1 : Int), (7 : Int)]]) (50 : Int) (5 : Int) (xad (0 : Int) [[(10 : Int), (1 : Int), (7 : Int)]])
 [(xaC), [xac (2 : Int) [], encL (xad (2 : Int) [])], [xac (3 : Int) ((xag)), encL (xad (3 : Int) ((xag)))]]
 ([(1 : Int), (7 : Int), (10 : Int)] :: [(2 : Int), (7 : Int), (10 : Int)] :: (xa0)) ((xcZ)) ((xcx))
noncomputable def xff  : List (List Int) :=
 xcI (xac (0 : Int) [[(10 : Int), (1 : Int), (7 : Int)]]) (((xaJ)).getD 0 (0 : Int)) (10 : Int) (xad (0 : Int) [[(10 : Int), (1 : Int), (7 : Int)]])
 (decL (((xaJ)).getD 1 (0 : Int))) ([(1 : Int), (7 : Int), (10 : Int)] :: [(2 : Int), (7 : Int), (10 : Int)] :: (xa0))
noncomputable def xgx  : List (List Int) :=
 xcI (xac (0 : Int) [[(10 : Int), (1 : Int), (7 : Int)]]) (((xbn)).getD 0 (0 : Int)) (10 : Int) (xad (0 : Int) [[(10 : Int), (1 : Int), (7 : Int)]])
 (decL (((xbn)).getD 1 (0 : Int))) ([(1 : Int), (7 : Int), (10 : Int)] :: [(2 : Int), (7 : Int), (10 : Int)] :: (xa0))
noncomputable def xfe  : List (List Int) :=
 xeg (xac (0 : Int) [[(10 : Int), (1 : Int), (7 : Int)]]) (50 : Int) (5 : Int) (xad (0 : Int) [[(10 : Int), (1 : Int), (7 : Int)]])
 [(xaC), [xac (2 : Int) [], encL (xad (2 : Int) [])], [xac (3 : Int) ((xag)), encL (xad (3 : Int) ((xag)))]]
 ([(1 : Int), (7 : Int), (10 : Int)] :: [(2 : Int), (7 : Int), (10 : Int)] :: (xa0))
noncomputable def xh9  : List (List Int) :=
 [[(2 : Int), (7 : Int)], [(2 : Int), (9 : Int)], [(3 : Int), (7 : Int)], [(3 : Int), (9 : Int)]]
noncomputable def xh8  : List (List Int) :=
 [[(1 : Int), (0 : Int), (9 : Int)], [(2 : Int), (2 : Int), (0 : Int)], [(2 : Int), (3 : Int), (0 : Int)]]
noncomputable def xdu  : Bool :=
 bif
  ((xg4) == (0 : Int) && (xg3) == (0 : Int) && (xg2) == (0 : Int) && (xgz) == (0 : Int) && (xgy) == (0 : Int) &&
     xdg (((xaJ)).getD 0 (0 : Int)) (12 : Int) (decL (((xaJ)).getD 1 (0 : Int))) == (0 : Int) &&
    xcR (xac (0 : Int) [[(10 : Int), (1 : Int), (7 : Int)]]) (50 : Int) (5 : Int) (xad (0 : Int) [[(10 : Int), (1 : Int), (7 : Int)]])
     [(xaC), [xac (2 : Int) [], encL (xad (2 : Int) [])], [xac (3 : Int) ((xag)), encL (xad (3 : Int) ((xag)))]]
     ([(1 : Int), (7 : Int), (10 : Int)] :: [(2 : Int), (7 : Int), (10 : Int)] :: (xa0)) ((xcZ)) ((xcx))) ==
   true then
 bif (xdT ((xff)) [[(7 : Int)]] && (↑((xgx)).length : Int) == (0 : Int)) == true then
  bif xdT (xcF (((xaJ)).getD 0 (0 : Int)) (12 : Int) (decL (((xaJ)).getD 1 (0 : Int)))) [[(7 : Int)]] == true then
   bif xbI ((xfe)) ((xh9)) == true then
    bif xbN ((xcZ)) ((xh8)) == true then
     bif xbI ((xcx)) [[(2 : Int), (7 : Int)], [(3 : Int), (7 : Int)], [(3 : Int), (9 : Int)]] == true then
      xae (((xbn)).getD 0 (0 : Int)) (decL (((xbn)).getD 1 (0 : Int)))
     else false
    else false
   else false
  else false
 else false
else false
def xed  : Prop :=
 (((xbJ (1 : Int) [[(12 : Int), (3 : Int), (7 : Int)]]) ∧ ((xbJ (2 : Int) []) ∧ ((xbJ (3 : Int) ((xag))) ∧ (xbJ (0 : Int) [[(10 : Int), (1 : Int), (7 : Int)]])))) ∧ ((inR (0 : Int) [(xaC), [xac (2 : Int) [], encL (xad (2 : Int) [])], [xac (3 : Int) ((xag)), encL (xad (3 : Int) ((xag)))]]) ∧ ((inR (0 : Int) [(xaC), [xac (2 : Int) [], encL (xad (2 : Int) [])], [xac (3 : Int) ((xag)), encL (xad (3 : Int) ((xag)))]]) ∧ ((xbA (xac (0 : Int) [[(10 : Int), (1 : Int), (7 : Int)]]) (((xaJ)).getD 0 (0 : Int)) (10 : Int) (xad (0 : Int) [[(10 : Int), (1 : Int), (7 : Int)]])
 (decL (((xaJ)).getD 1 (0 : Int))) ([(1 : Int), (7 : Int), (10 : Int)] :: [(2 : Int), (7 : Int), (10 : Int)] :: (xa0))) ∧ ((inR (2 : Int) [(xaC), [xac (2 : Int) [], encL (xad (2 : Int) [])], [xac (3 : Int) ((xag)), encL (xad (3 : Int) ((xag)))]]) ∧ ((inR (2 : Int) [(xaC), [xac (2 : Int) [], encL (xad (2 : Int) [])], [xac (3 : Int) ((xag)), encL (xad (3 : Int) ((xag)))]]) ∧ ((xbA (xac (0 : Int) [[(10 : Int), (1 : Int), (7 : Int)]]) (((xbn)).getD 0 (0 : Int)) (10 : Int) (xad (0 : Int) [[(10 : Int), (1 : Int), (7 : Int)]])
 (decL (((xbn)).getD 1 (0 : Int))) ([(1 : Int), (7 : Int), (10 : Int)] :: [(2 : Int), (7 : Int), (10 : Int)] :: (xa0))) ∧ ((xcS (xac (0 : Int) [[(10 : Int), (1 : Int), (7 : Int)]]) (50 : Int) (5 : Int) (xad (0 : Int) [[(10 : Int), (1 : Int), (7 : Int)]])
 [(xaC), [xac (2 : Int) [], encL (xad (2 : Int) [])], [xac (3 : Int) ((xag)), encL (xad (3 : Int) ((xag)))]]
 ([(1 : Int), (7 : Int), (10 : Int)] :: [(2 : Int), (7 : Int), (10 : Int)] :: (xa0))) ∧ ((xbw (xac (0 : Int) [[(10 : Int), (1 : Int), (7 : Int)]]) (50 : Int) (5 : Int) (xad (0 : Int) [[(10 : Int), (1 : Int), (7 : Int)]])
 [(xaC), [xac (2 : Int) [], encL (xad (2 : Int) [])], [xac (3 : Int) ((xag)), encL (xad (3 : Int) ((xag)))]]
 ([(1 : Int), (7 : Int), (10 : Int)] :: [(2 : Int), (7 : Int), (10 : Int)] :: (xa0))) ∧ ((xb9 (xac (0 : Int) [[(10 : Int), (1 : Int), (7 : Int)]]) (50 : Int) (5 : Int) (xad (0 : Int) [[(10 : Int), (1 : Int), (7 : Int)]])
 [(xaC), [xac (2 : Int) [], encL (xad (2 : Int) [])], [xac (3 : Int) ((xag)), encL (xad (3 : Int) ((xag)))]]
 ([(1 : Int), (7 : Int), (10 : Int)] :: [(2 : Int), (7 : Int), (10 : Int)] :: (xa0)) ((xcZ)) ((xcx))) ∧ ((inR (0 : Int) [(xaC), [xac (2 : Int) [], encL (xad (2 : Int) [])], [xac (3 : Int) ((xag)), encL (xad (3 : Int) ((xag)))]]) ∧ ((inR (0 : Int) [(xaC), [xac (2 : Int) [], encL (xad (2 : Int) [])], [xac (3 : Int) ((xag)), encL (xad (3 : Int) ((xag)))]]) ∧ ((xcv (((xaJ)).getD 0 (0 : Int)) (12 : Int) (decL (((xaJ)).getD 1 (0 : Int)))) ∧ (((((xg4) == (0 : Int) && (xg3) == (0 : Int) && (xg2) == (0 : Int) && (xgz) == (0 : Int) && (xgy) == (0 : Int) &&
    xdg (((xaJ)).getD 0 (0 : Int)) (12 : Int) (decL (((xaJ)).getD 1 (0 : Int))) == (0 : Int) &&
   xcR (xac (0 : Int) [[(10 : Int), (1 : Int), (7 : Int)]]) (50 : Int) (5 : Int) (xad (0 : Int) [[(10 : Int), (1 : Int), (7 : Int)]])
    [(xaC), [xac (2 : Int) [], encL (xad (2 : Int) [])], [xac (3 : Int) ((xag)), encL (xad (3 : Int) ((xag)))]]
    ([(1 : Int), (7 : Int), (10 : Int)] :: [(2 : Int), (7 : Int), (10 : Int)] :: (xa0)) ((xcZ)) ((xcx))) ==
  true) =
 true) → ((xdA ((xff)) [[(7 : Int)]]) ∧ ((((xdT ((xff)) [[(7 : Int)]] && (↑((xgx)).length : Int) == (0 : Int)) == true) = true) → ((xdA (xcF (((xaJ)).getD 0 (0 : Int)) (12 : Int) (decL (((xaJ)).getD 1 (0 : Int)))) [[(7 : Int)]]) ∧ (((xdT (xcF (((xaJ)).getD 0 (0 : Int)) (12 : Int) (decL (((xaJ)).getD 1 (0 : Int)))) [[(7 : Int)]] == true) = true) → ((xbY ((xfe)) ((xh9))) ∧ (((xbI ((xfe)) ((xh9)) == true) = true) → ((xby ((xcZ)) ((xh8))) ∧ (((xbN ((xcZ)) ((xh8)) == true) = true) → ((xbY ((xcx)) [[(2 : Int), (7 : Int)], [(3 : Int), (7 : Int)], [(3 : Int), (9 : Int)]]) ∧ (((xbI ((xcx)) [[(2 : Int), (7 : Int)], [(3 : Int), (7 : Int)], [(3 : Int), (9 : Int)]] = true) → (inR (2 : Int) [(xaC), [xac (2 : Int) [], encL (xad (2 : Int) [])], [xac (3 : Int) ((xag)), encL (xad (3 : Int) ((xag)))]])) ∧ (((xbI ((xcx)) [[(2 : Int), (7 : Int)], [(3 : Int), (7 : Int)], [(3 : Int), (9 : Int)]] == true) = true) → ((inR (2 : Int) [(xaC), [xac (2 : Int) [], encL (xad (2 : Int) [])], [xac (3 : Int) ((xag)), encL (xad (3 : Int) ((xag)))]]) ∧ (xaE (((xbn)).getD 0 (0 : Int)) (decL (((xbn)).getD 1 (0 : Int))))))))))))))))))))))))))))))
end Go.Proofs.YtikhnofbbcmpeaaGreat
set_option maxRecDepth 100000
set_option linter.unusedVariables false
namespace Go.Proofs.YtikhnofbbcmpeaaGreat
open Go Go.Sy
theorem xq0 (a b : List (List Int)) : xas Tryz.prog 2 (xa1 Tryz.prog K34 xcQ 9 37 [.sl 0, .sl 1] ⟨[⟨0, 2, false, .row 3 [.int .i64] a⟩, ⟨1, 2, false, .row 3 [.int .i64] b⟩], 2⟩) = some ⟨some (xdA a b), [], 0, [], .bool (xdT a b)⟩ := by kernel_rfl
noncomputable def xlj : List U → Option Eff
 | [.r a, .r b] => some ⟨some (xdA a b), [], 0, [], .bool (xdT a b)⟩
 | _ => Option.none
noncomputable def K35 : Con := ext Tryz.prog K34 37 [.sl 0, .sl 1] [⟨0, 0, false, .row 3 [.int .i64] []⟩, ⟨1, 0, false, .row 3 [.int .i64] []⟩] xlj
theorem xCV : xbc Tryz.prog K35 := xav xaB xCW (n := 9) rfl rfl fun us x h => by
 unfold xlj at h
 split at h
 ·cases h; exact ⟨some (xdA _ _), xq0 _ _, fun h => h⟩
 ·cases h
theorem xmq (a b : List (List Int)) : xas Tryz.prog 2 (xa1 Tryz.prog K35 xcQ 9 30 [.sl 0, .sl 1] ⟨[⟨0, 2, false, .row 52 [.int .i64, .int .i64] a⟩, ⟨1, 2, false, .row 52 [.int .i64, .int .i64] b⟩], 2⟩) = some ⟨some (xbY a b), [], 0, [], .bool (xbI a b)⟩ := by kernel_rfl
noncomputable def xhM : List U → Option Eff
 | [.r a, .r b] => some ⟨some (xbY a b), [], 0, [], .bool (xbI a b)⟩
 | _ => Option.none
noncomputable def K36 : Con := ext Tryz.prog K35 30 [.sl 0, .sl 1] [⟨0, 0, false, .row 52 [.int .i64, .int .i64] []⟩, ⟨1, 0, false, .row 52 [.int .i64, .int .i64] []⟩] xhM
theorem xCU : xbc Tryz.prog K36 := xav xaB xCV (n := 9) rfl rfl fun us x h => by
 unfold xhM at h
 split at h
 ·cases h; exact ⟨some (xbY _ _), xmq _ _, fun h => h⟩
 ·cases h
theorem xje (a b : List (List Int)) : xas Tryz.prog 2 (xa1 Tryz.prog K36 xcQ 9 41 [.sl 0, .sl 1] ⟨[⟨0, 2, false, .row 80 [.int .i64, .int .i64, .int .i64] a⟩, ⟨1, 2, false, .row 80 [.int .i64, .int .i64, .int .i64] b⟩], 2⟩) = some ⟨some (xby a b), [], 0, [], .bool (xbN a b)⟩ := by kernel_rfl
noncomputable def xfI : List U → Option Eff
 | [.r a, .r b] => some ⟨some (xby a b), [], 0, [], .bool (xbN a b)⟩
 | _ => Option.none
noncomputable def K37 : Con := ext Tryz.prog K36 41 [.sl 0, .sl 1] [⟨0, 0, false, .row 80 [.int .i64, .int .i64, .int .i64] []⟩, ⟨1, 0, false, .row 80 [.int .i64, .int .i64, .int .i64] []⟩] xfI
theorem xCT : xbc Tryz.prog K37 := xav xaB xCU (n := 9) rfl rfl fun us x h => by
 unfold xfI at h
 split at h
 ·cases h; exact ⟨some (xby _ _), xje _ _, fun h => h⟩
 ·cases h
theorem xsB (owner : Int) (lines : List (List Int)) : xas Tryz.prog 1 (xa1 Tryz.prog K37 xcQ 9 86 [.int .i64 owner, .sl 0] ⟨[⟨0, 1, false, .row 127 [.int .i64, .int .i64, .int .i64] lines⟩], 1⟩) = some ⟨some (xbJ owner lines), [], 1, [⟨1, 1, true, .row 29 [.int .i64, .int .i64, .int .i64, .int .u64] (xad owner lines)⟩], .agg [.int .i64 (xac owner lines), .sl 1]⟩ := by kernel_rfl
noncomputable def xmK : List U → Option Eff
 | [.i owner, .r lines] => some ⟨some (xbJ owner lines), [], 1, [⟨1, 1, true, .row 29 [.int .i64, .int .i64, .int .i64, .int .u64] (xad owner lines)⟩], .agg [.int .i64 (xac owner lines), .sl 1]⟩
 | _ => Option.none
noncomputable def K38 : Con := ext Tryz.prog K37 86 [.int .i64 0, .sl 0] [⟨0, 0, false, .row 127 [.int .i64, .int .i64, .int .i64] []⟩] xmK
theorem xCS : xbc Tryz.prog K38 := xav xaB xCT (n := 9) rfl rfl fun us x h => by
 unfold xmK at h
 split at h
 ·cases h; exact ⟨some (xbJ _ _), xsB _ _, fun h => h⟩
 ·cases h
theorem xq3  : xas Tryz.prog 0 (xa1 Tryz.prog K38 xcQ 9 12 [] ⟨[], 0⟩) = some ⟨some (xed), [], 0, [], .bool (xdu)⟩ := by kernel_rfl
noncomputable def xll : List U → Option Eff
 | [] => some ⟨some (xed), [], 0, [], .bool (xdu)⟩
 | _ => Option.none
noncomputable def K39 : Con := ext Tryz.prog K38 12 [] [] xll
theorem xCR : xbc Tryz.prog K39 := xav xaB xCS (n := 9) rfl rfl fun us x h => by
 unfold xll at h
 split at h
 ·cases h; exact ⟨some (xed), xq3, fun h => h⟩
 ·cases h
end Go.Proofs.YtikhnofbbcmpeaaGreat
set_option maxRecDepth 100000
set_option linter.unusedVariables false
namespace Go.Proofs.YtikhnofbbcmpeaaGreat
open Go Go.Sy
noncomputable def xiv (l_Owner time : Int) (l_Lines : List (List Int)) : List U :=
 [.b (false), .i ((0 : Int))]
noncomputable def xc4 (l_Owner time : Int) (l_Lines : List (List Int)) (y0 : List U) : Option (Nat × List U) :=
 (bif decide (gi y0 1 < (↑l_Lines.length : Int)) then xab (inR (gi y0 1) l_Lines) (xab (inR (gi y0 1) l_Lines) (xab (inR (gi y0 1) l_Lines) (xab ((decide ((l_Lines.getD (gi y0 1).toNat []).getD 0 (0 : Int) ≤ time) = true) → (inR (gi y0 1) l_Lines)) (xab ((decide ((l_Lines.getD (gi y0 1).toNat []).getD 0 (0 : Int) ≤ time) = true) → (inR (gi y0 1) l_Lines)) (xab ((decide ((l_Lines.getD (gi y0 1).toNat []).getD 0 (0 : Int) ≤ time) = true) → (inR (gi y0 1) l_Lines)) (xab ((decide ((l_Lines.getD (gi y0 1).toNat []).getD 0 (0 : Int) ≤ time) = true) → ((((l_Lines.getD (gi y0 1).toNat []).getD 1 (0 : Int) == (4 : Int)) = false) → (inR (gi y0 1) l_Lines))) (xab ((decide ((l_Lines.getD (gi y0 1).toNat []).getD 0 (0 : Int) ≤ time) = true) → ((((l_Lines.getD (gi y0 1).toNat []).getD 1 (0 : Int) == (4 : Int)) = false) → (inR (gi y0 1) l_Lines))) (xab ((decide ((l_Lines.getD (gi y0 1).toNat []).getD 0 (0 : Int) ≤ time) = true) → ((((l_Lines.getD (gi y0 1).toNat []).getD 1 (0 : Int) == (4 : Int)) = false) → (inR (gi y0 1) l_Lines))) ((bif decide ((l_Lines.getD (gi y0 1).toNat []).getD 0 (0 : Int) ≤ time) &&
 ((l_Lines.getD (gi y0 1).toNat []).getD 1 (0 : Int) == (4 : Int) || (l_Lines.getD (gi y0 1).toNat []).getD 1 (0 : Int) == (5 : Int)) then xab (inR (gi y0 1) l_Lines) (xab (inR (gi y0 1) l_Lines) (xab (inR (gi y0 1) l_Lines) (some (0, [.b ((l_Lines.getD (gi y0 1).toNat []).getD 1 (0 : Int) == (4 : Int)), .i (IntKind.i64.wrap (gi y0 1 + (1 : Int)))])))) else some (0, [.b (gb y0 0), .i (IntKind.i64.wrap (gi y0 1 + (1 : Int)))]))))))))))) else some (3, [.b (gb y0 0), .i (gi y0 1)]))
noncomputable def xtn (l_Owner time : Int) (l_Lines : List (List Int)) : Nat × List U := xam (xc4 l_Owner time l_Lines) (xiv l_Owner time l_Lines)
noncomputable def xdW (l_Owner time : Int) (l_Lines : List (List Int)) : Bool :=
 gb (xtn l_Owner time l_Lines).snd 0
def xfJ (l_Owner time : Int) (l_Lines : List (List Int)) : Prop :=
 ((xax (xc4 l_Owner time l_Lines) (xiv l_Owner time l_Lines)))
noncomputable def xiw (l_Owner kind item from_ until_ : Int) (l_Lines : List (List Int)) : List U :=
 [.b (false), .i ((0 : Int))]
noncomputable def xdL (l_Owner kind item from_ until_ : Int) (l_Lines : List (List Int)) (y0 : List U) : Option (Nat × List U) :=
 (bif decide (gi y0 1 < (↑l_Lines.length : Int)) then xab (inR (gi y0 1) l_Lines) (xab (inR (gi y0 1) l_Lines) ((bif (l_Lines.getD (gi y0 1).toNat []).getD 1 (0 : Int) == kind && (l_Lines.getD (gi y0 1).toNat []).getD 2 (0 : Int) == item &&
  decide (from_ ≤ (l_Lines.getD (gi y0 1).toNat []).getD 0 (0 : Int)) &&
 decide ((l_Lines.getD (gi y0 1).toNat []).getD 0 (0 : Int) ≤ until_) then some (1, []) else some (0, [.b (gb y0 0), .i (IntKind.i64.wrap (gi y0 1 + (1 : Int)))])))) else some (3, [.b (gb y0 0), .i (gi y0 1)]))
noncomputable def xto (l_Owner kind item from_ until_ : Int) (l_Lines : List (List Int)) : Nat × List U := xam (xdL l_Owner kind item from_ until_ l_Lines) (xiw l_Owner kind item from_ until_ l_Lines)
noncomputable def xeD (l_Owner kind item from_ until_ : Int) (l_Lines : List (List Int)) : Bool :=
 bif (xto l_Owner kind item from_ until_ l_Lines).fst.beq 1 then true else false
def xeU (l_Owner kind item from_ until_ : Int) (l_Lines : List (List Int)) : Prop :=
 ((xax (xdL l_Owner kind item from_ until_ l_Lines) (xiw l_Owner kind item from_ until_ l_Lines)))
noncomputable def xiF (n : Int) (list : List (List Int)) : List U :=
 [.b (false), .i ((0 : Int))]
noncomputable def xiE (n : Int) (list : List (List Int)) (y0 : List U) : Option (Nat × List U) :=
 (bif decide (gi y0 1 < (↑list.length : Int)) then xab (inR (gi y0 1) list) (xab (inR (gi y0 1) list) ((bif (list.getD (gi y0 1).toNat []).getD 0 (0 : Int) == n then some (1, []) else some (0, [.b (gb y0 0), .i (IntKind.i64.wrap (gi y0 1 + (1 : Int)))])))) else some (3, [.b (gb y0 0), .i (gi y0 1)]))
noncomputable def xtS (n : Int) (list : List (List Int)) : Nat × List U := xam (xiE n list) (xiF n list)
noncomputable def xqc (n : Int) (list : List (List Int)) : Bool :=
 bif (xtS n list).fst.beq 1 then true else false
def xjj (n : Int) (list : List (List Int)) : Prop :=
 ((xax (xiE n list) (xiF n list)))
end Go.Proofs.YtikhnofbbcmpeaaGreat
set_option maxRecDepth 100000
set_option linter.unusedVariables false
namespace Go.Proofs.YtikhnofbbcmpeaaGreat
open Go Go.Sy
theorem xsg (l_Owner time : Int) (l_Lines : List (List Int)) : xas Tryz.prog 1 (xa1 Tryz.prog K39 xcQ 9 19 [.agg [.int .i64 l_Owner, .sl 0], .int .i64 time] ⟨[⟨0, 1, false, .row 29 [.int .i64, .int .i64, .int .i64, .int .u64] l_Lines⟩], 1⟩) = some ⟨some (xfJ l_Owner time l_Lines), [], 0, [], .bool (xdW l_Owner time l_Lines)⟩ := by kernel_rfl
noncomputable def xmr : List U → Option Eff
 | [.i l_Owner, .i time, .r l_Lines] => some ⟨some (xfJ l_Owner time l_Lines), [], 0, [], .bool (xdW l_Owner time l_Lines)⟩
 | _ => Option.none
noncomputable def K40 : Con := ext Tryz.prog K39 19 [.agg [.int .i64 0, .sl 0], .int .i64 0] [⟨0, 0, false, .row 29 [.int .i64, .int .i64, .int .i64, .int .u64] []⟩] xmr
theorem xCQ : xbc Tryz.prog K40 := xav xaB xCR (n := 9) rfl rfl fun us x h => by
 unfold xmr at h
 split at h
 ·cases h; exact ⟨some (xfJ _ _ _), xsg _ _ _, fun h => h⟩
 ·cases h
theorem xsh (l_Owner kind item from_ until_ : Int) (l_Lines : List (List Int)) : xas Tryz.prog 1 (xa1 Tryz.prog K40 xcQ 9 20 [.agg [.int .i64 l_Owner, .sl 0], .int .i64 kind, .int .i64 item, .int .i64 from_, .int .i64 until_] ⟨[⟨0, 1, false, .row 29 [.int .i64, .int .i64, .int .i64, .int .u64] l_Lines⟩], 1⟩) = some ⟨some (xeU l_Owner kind item from_ until_ l_Lines), [], 0, [], .bool (xeD l_Owner kind item from_ until_ l_Lines)⟩ := by kernel_rfl
noncomputable def xms : List U → Option Eff
 | [.i l_Owner, .i kind, .i item, .i from_, .i until_, .r l_Lines] => some ⟨some (xeU l_Owner kind item from_ until_ l_Lines), [], 0, [], .bool (xeD l_Owner kind item from_ until_ l_Lines)⟩
 | _ => Option.none
noncomputable def K41 : Con := ext Tryz.prog K40 20 [.agg [.int .i64 0, .sl 0], .int .i64 0, .int .i64 0, .int .i64 0, .int .i64 0] [⟨0, 0, false, .row 29 [.int .i64, .int .i64, .int .i64, .int .u64] []⟩] xms
theorem xCP : xbc Tryz.prog K41 := xav xaB xCQ (n := 9) rfl rfl fun us x h => by
 unfold xms at h
 split at h
 ·cases h; exact ⟨some (xeU _ _ _ _ _ _), xsh _ _ _ _ _ _, fun h => h⟩
 ·cases h
theorem xsC (n : Int) (list : List (List Int)) : xas Tryz.prog 1 (xa1 Tryz.prog K41 xcQ 9 18 [.sl 0, .int .i64 n] ⟨[⟨0, 1, false, .row 3 [.int .i64] list⟩], 1⟩) = some ⟨some (xjj n list), [], 0, [], .bool (xqc n list)⟩ := by kernel_rfl
noncomputable def xmL : List U → Option Eff
 | [.i n, .r list] => some ⟨some (xjj n list), [], 0, [], .bool (xqc n list)⟩
 | _ => Option.none
noncomputable def K42 : Con := ext Tryz.prog K41 18 [.sl 0, .int .i64 0] [⟨0, 0, false, .row 3 [.int .i64] []⟩] xmL
theorem xCO : xbc Tryz.prog K42 := xav xaB xCP (n := 9) rfl rfl fun us x h => by
 unfold xmL at h
 split at h
 ·cases h; exact ⟨some (xjj _ _), xsC _ _, fun h => h⟩
 ·cases h
end Go.Proofs.YtikhnofbbcmpeaaGreat
set_option maxRecDepth 100000
set_option linter.unusedVariables false
namespace Go.Proofs.YtikhnofbbcmpeaaGreat
open Go Go.Sy
noncomputable def xgh (office_Owner : Int) (office_Lines ships chances : List (List Int)) : List U :=
 [.b (false), .i ((0 : Int))]
noncomputable def xc7 (office_Owner : Int) (office_Lines ships chances : List (List Int)) (y0 : List U) : Option (Nat × List U) :=
 (bif decide (gi y0 1 < (↑ships.length : Int)) then xab (inR (gi y0 1) ships) (xab (inR (gi y0 1) ships) (xab (inR (gi y0 1) ships) (xab ((decide ((↑(decL ((ships.getD (gi y0 1).toNat []).getD 1 (0 : Int))).length : Int) > (40 : Int)) = true) → (inR (gi y0 1) ships)) (xab ((decide ((↑(decL ((ships.getD (gi y0 1).toNat []).getD 1 (0 : Int))).length : Int) > (40 : Int)) = true) → (inR (gi y0 1) ships)) ((bif decide ((↑(decL ((ships.getD (gi y0 1).toNat []).getD 1 (0 : Int))).length : Int) > (40 : Int)) == true then xab (inR (gi y0 1) ships) ((bif decide ((↑(decL ((ships.getD (gi y0 1).toNat []).getD 1 (0 : Int))).length : Int) ≤ (200 : Int)) then some (1, []) else some (0, [.b (gb y0 0), .i (IntKind.i64.wrap (gi y0 1 + (1 : Int)))]))) else some (0, [.b (gb y0 0), .i (IntKind.i64.wrap (gi y0 1 + (1 : Int)))]))))))) else some (4, [.b (gb y0 0), .i (gi y0 1)]))
noncomputable def xtp (office_Owner : Int) (office_Lines ships chances : List (List Int)) : Nat × List U := xam (xc7 office_Owner office_Lines ships chances) (xgh office_Owner office_Lines ships chances)
noncomputable def xeE (office_Owner : Int) (office_Lines ships chances : List (List Int)) : Bool :=
 bif
  decide ((↑chances.length : Int) > (16 : Int)) && decide ((↑chances.length : Int) ≤ (200 : Int)) || decide ((↑ships.length : Int) > (20 : Int)) ||
   decide ((↑office_Lines.length : Int) > (40 : Int)) && decide ((↑office_Lines.length : Int) ≤ (200 : Int)) then
 false
else bif (xtp office_Owner office_Lines ships chances).fst.beq 1 then false else true
def xfK (office_Owner : Int) (office_Lines ships chances : List (List Int)) : Prop :=
 (((decide ((↑chances.length : Int) > (16 : Int)) && decide ((↑chances.length : Int) ≤ (200 : Int)) || decide ((↑ships.length : Int) > (20 : Int)) ||
  decide ((↑office_Lines.length : Int) > (40 : Int)) && decide ((↑office_Lines.length : Int) ≤ (200 : Int))) =
 false) → ((xax (xc7 office_Owner office_Lines ships chances) (xgh office_Owner office_Lines ships chances))))
end Go.Proofs.YtikhnofbbcmpeaaGreat
set_option maxRecDepth 100000
set_option linter.unusedVariables false
namespace Go.Proofs.YtikhnofbbcmpeaaGreat
open Go Go.Sy
theorem xsi (office_Owner : Int) (office_Lines ships chances : List (List Int)) : xas Tryz.prog 3 (xa1 Tryz.prog K42 xcQ 9 21 [.agg [.int .i64 office_Owner, .sl 0], .sl 1, .sl 2] ⟨[⟨0, 3, false, .row 29 [.int .i64, .int .i64, .int .i64, .int .u64] office_Lines⟩, ⟨1, 3, false, .nst 24 [.c (.int .i64), .s 29 [.int .i64, .int .i64, .int .i64, .int .u64]] ships⟩, ⟨2, 3, false, .row 41 [.int .i64, .int .i64, .int .i64] chances⟩], 3⟩) = some ⟨some (xfK office_Owner office_Lines ships chances), [], 0, [], .bool (xeE office_Owner office_Lines ships chances)⟩ := by kernel_rfl
noncomputable def xmt : List U → Option Eff
 | [.i office_Owner, .r office_Lines, .r ships, .r chances] => some ⟨some (xfK office_Owner office_Lines ships chances), [], 0, [], .bool (xeE office_Owner office_Lines ships chances)⟩
 | _ => Option.none
noncomputable def K43 : Con := ext Tryz.prog K42 21 [.agg [.int .i64 0, .sl 0], .sl 1, .sl 2] [⟨0, 0, false, .row 29 [.int .i64, .int .i64, .int .i64, .int .u64] []⟩, ⟨1, 0, false, .nst 24 [.c (.int .i64), .s 29 [.int .i64, .int .i64, .int .i64, .int .u64]] []⟩, ⟨2, 0, false, .row 41 [.int .i64, .int .i64, .int .i64] []⟩] xmt
theorem xoN : xbc Tryz.prog K43 := xav xaB xCO (n := 9) rfl rfl fun us x h => by
 unfold xmt at h
 split at h
 ·cases h; exact ⟨some (xfK _ _ _ _), xsi _ _ _ _, fun h => h⟩
 ·cases h
end Go.Proofs.YtikhnofbbcmpeaaGreat
set_option linter.unusedVariables false
namespace Go.Proofs.YtikhnofbbcmpeaaGreat
open Go Go.Sy
noncomputable def opc (n : Nat) : Code := (xgY n ((Tryz.f23.body).getD .skip)).getD .skip
def xmC : List Sy.Obj := [⟨0, 0, false, .nst 24 xyx []⟩]
def xvY : Sy.Obj := ⟨2, 0, true, .cells [.int .i64 0, .val (.slice none 0 0)]⟩
def oLs : List (Nat × AV) := [(0, .sl 0), (1, .int .i64 0), (4, .ptr 2 0), (5, .int .i64 0)]
def o0 : Sy.Spec := ⟨[(0, .sl 0), (1, .int .i64 0)], xmC, [], 1, []⟩
def oA : Sy.Spec := ⟨[(0, .sl 0), (1, .int .i64 0), (4, .ptr 2 0)], xmC ++ [xvY], [], 3, []⟩
def oL : Sy.Spec := ⟨oLs, xmC ++ [xvY], [], 3, []⟩
def oB : Sy.Spec := ⟨oLs ++ [(9, .bool false)], xmC ++ [xvY], [], 3, []⟩
def oC : Sy.Spec := ⟨oLs ++ [(18, .bool false)], xmC ++ [xvY], [], 3, []⟩
end Go.Proofs.YtikhnofbbcmpeaaGreat
set_option maxRecDepth 100000
set_option linter.unusedVariables false
namespace Go.Proofs.YtikhnofbbcmpeaaGreat
open Go Go.Sy
noncomputable def of0 (s : Int) (ships : List (List Int)) : Option (Nat × List U) :=
 some (0, [.i (s), .r (ships), .i ((0 : Int))])
noncomputable def of1 (s : Int) (ships : List (List Int)) (z : Int) : Option (Nat × List U) :=
 some (0, [.i (s), .i ((0 : Int)), .r (ships), .i (z)])
noncomputable def of2 (s i : Int) (ships : List (List Int)) (z : Int) : Option (Nat × List U) :=
 some (0, [.i (s), .i (i), .b (decide (i < (↑(ships).length : Int))), .r (ships), .i (z)])
noncomputable def of3 (s i : Int) (ships : List (List Int)) (z : Int) : Option (Nat × List U) :=
 some (0, [.i (s), .i (IntKind.i64.wrap (i + (1 : Int))), .r (ships), .i (z)])
noncomputable def of4 (s i : Int) (ships : List (List Int)) (z : Int) : Option (Nat × List U) :=
 xab (inR (i) (ships)) (xab (inR (i) (ships)) (xab (inR (i) (ships)) (some (0, [.i (s), .i (i), .b (((ships).getD (i).toNat []).getD 0 (0 : Int) == s), .r (ships), .i (z)]))))
noncomputable def of6 (s i : Int) (ships : List (List Int)) (z : Int) : Option (Nat × List U) :=
 some (0, [.i (s), .i (i), .r (ships), .i ((0 : Int))])
end Go.Proofs.YtikhnofbbcmpeaaGreat
set_option maxRecDepth 100000
set_option linter.unusedVariables false
namespace Go.Proofs.YtikhnofbbcmpeaaGreat
open Go Go.Sy
theorem xB0 (s : Int) (ships : List (List Int)) : xd6 Tryz.prog K43 9 24 (o0) [(.normal, oA)] (opc 0) [.i s, .r ships] = of0 s ships := by kernel_rfl
theorem xBZ (s : Int) (ships : List (List Int)) (z : Int) : xd6 Tryz.prog K43 9 24 (oA) [(.normal, oL)] (opc 1) [.i s, .r ships, .i z] = of1 s ships z := by kernel_rfl
theorem xAu (s i : Int) (ships : List (List Int)) (z : Int) : xd6 Tryz.prog K43 9 24 (oL) [(.normal, oB)] (opc 2) [.i s, .i i, .r ships, .i z] = of2 s i ships z := by kernel_rfl
theorem xBY (s i : Int) (ships : List (List Int)) (z : Int) : xd6 Tryz.prog K43 9 24 (oL) [(.normal, oL)] (opc 3) [.i s, .i i, .r ships, .i z] = of3 s i ships z := by kernel_rfl
theorem xBX (s i : Int) (ships : List (List Int)) (z : Int) : xd6 Tryz.prog K43 9 24 (oL) [(.normal, oC)] (opc 4) [.i s, .i i, .r ships, .i z] = of4 s i ships z := by kernel_rfl
theorem xBW (s i : Int) (ships : List (List Int)) (z : Int) : xd6 Tryz.prog K43 9 24 (oL) [(.normal, oL)] (opc 6) [.i s, .i i, .r ships, .i z] = of6 s i ships z := by kernel_rfl
end Go.Proofs.YtikhnofbbcmpeaaGreat
set_option linter.unusedVariables false
namespace Go.Proofs.YtikhnofbbcmpeaaGreat
open Go Go.Sy
noncomputable def xkg (s : Int) (ships : List (List Int)) : Int × List (List Int) := match ships.find? (fun x => x.getD 0 0 == s) with
 | some x => (x.getD 0 0, decL (x.getD 1 0))
 | none => (0, [])
noncomputable def xc6 (ship : Int) (ships : List (List Int)) : Int := (xkg ship ships).1
noncomputable def xc5 (ship : Int) (ships : List (List Int)) : List (List Int) := (xkg ship ships).2
def xfv (ship : Int) (ships : List (List Int)) : Prop := ships.length ≤ 9223372036854775807
end Go.Proofs.YtikhnofbbcmpeaaGreat
set_option linter.unusedVariables false
namespace Go.Sy
open Go.RowKit
section
variable {P : Program} {X : List (Nat × Go.Obj)} {w0 w : World} {N : Nat} {E : Env} {ops : Array Oper} {rest : List Oper} {Q : Exit → Act → World → Prop} {c : Cfg} {a : Act} {o : Oper} {x : Eff} {d : Nat}
theorem xsA (hc : CfgOk X E w0 N c a w) (hg : o.guard = none) (hd : o.dst = some d) (hdN : d < N) (hz : xkY P (rhoC c) c.heap.objs c.heap.next o.op = some x) (hx : x.holds)
  (h : ∀ E' v w', (∀ k, k < c.heap.next → E' k = E k) → v = x.v.den E' → CfgOk X E' w0 N ⟨fun t => match Nat.beq t d with | true => some x.v | false => c.tmps t, c.heap.eff x⟩ (a.put (some d) v) w' → wpListIn (FR none) 0 P ops Q rest (a.put (some d) v) w') :
  wpListIn (FR none) 0 P ops Q (o :: rest) a w := by
 obtain ⟨E', w', nx, g1, g2, g3, g4, g5, g6, _⟩ := hc.opE hz hx
 have henv : ∀ k, (E' k).oneCell' = true := by obtain ⟨_, _, _, _, hH⟩ := g4; exact hH.env
 have hp := g4.put (d := d) (v := x.v.den E') (u := some x.v) (E2 := E') hdN (fun o ho => ⟨rfl, xbt _⟩) henv (fun t y _ _ => (xaU y).2 fun _ _ => rfl) (fun y hy => by cases hy; exact ⟨rfl, g5⟩)
 refine xhP (v := x.v.den E') hg g6 g1 g2 ?_
 rw [hd]
 exact h E' _ w' g3 rfl hp
theorem xzR (hc : CfgOk X E w0 N c a w) (hg : o.guard = none) (hd : o.dst = none) (hz : xkY P (rhoC c) c.heap.objs c.heap.next o.op = some x) (hx : x.holds)
  (h : ∀ E' w', (∀ k, k < c.heap.next → E' k = E k) → CfgOk X E' w0 N ⟨c.tmps, c.heap.eff x⟩ a w' → wpListIn (FR none) 0 P ops Q rest a w') :
  wpListIn (FR none) 0 P ops Q (o :: rest) a w := by
 obtain ⟨E', w', nx, g1, g2, g3, g4, g5, g6, _⟩ := hc.opE hz hx
 refine xhP (v := x.v.den E') hg g6 g1 g2 ?_
 rw [hd]
 exact h E' w' g3 g4
theorem xw4 {t : TypeId} {y : Operand} {v : AV} (hc : CfgOk X E w0 N c a w) (hg : o.guard = none) (hd : o.dst = some d) (hdN : d < N) (ho : o.op = .load t y) (hy : rhoC c y = some v) (hz : xmJ P c.heap.objs c.heap.next t v = some x) (hx : x.holds)
  (h : ∀ E' u, (∀ k, k < c.heap.next → E' k = E k) → u = x.v.den E' → (∀ o ∈ x.add, ∀ g, blkO (E' o.key) = some g → ∃ o' ∈ c.heap.objs, Inn E w o'.key o'.body g) →
   CfgOk X E' w0 N ⟨fun t => match Nat.beq t d with | true => some x.v | false => c.tmps t, c.heap.eff x⟩ (a.put (some d) u) w → wpListIn (FR none) 0 P ops Q rest (a.put (some d) u) w) :
  wpListIn (FR none) 0 P ops Q (o :: rest) a w := by
 obtain ⟨E', g1, g3, g4, g5, g6⟩ := hc.loadN ho hy hz hx
 have henv : ∀ k, (E' k).oneCell' = true := by obtain ⟨_, _, _, _, hH⟩ := g4; exact hH.env
 have hp := g4.put (d := d) (v := x.v.den E') (u := some x.v) (E2 := E') hdN (fun o ho => ⟨rfl, xbt _⟩) henv (fun t y _ _ => (xaU y).2 fun _ _ => rfl) (fun y hy => by cases hy; exact ⟨rfl, g5⟩)
 refine xhP (v := x.v.den E') hg (fun c e => by rw [ho] at e; cases e) g1 (.inl rfl) ?_
 rw [hd]
 exact h E' _ g3 rfl g6 hp
end
end Go.Sy
set_option linter.unusedVariables false
set_option maxRecDepth 100000
namespace Go.Proofs.YtikhnofbbcmpeaaGreat
open Go Go.Sy Go.Proofs Go.RowKit
noncomputable def ofF : Func := Tryz.f23
noncomputable def ofB : Code := ofF.body.getD .skip
theorem xx8 : ofF.body = some ofB := by kernel_rfl
theorem xvX : ofF.ntmps = 24 := by kernel_rfl
noncomputable def xx9 : Code := Code.seq (.seq (opc 2) (.cond (.tmp 9) .skip (.exit 0))) (.seq (.block 1 (.seq (opc 4) (.cond (.tmp 18) (.seq (opc 5) .ret) .skip))) (opc 3))
theorem xwZ : ofB = Code.seq (opc 0) (.seq (.seq (opc 1) (.block 0 (.loop xx9))) (.seq (opc 6) .ret)) := by kernel_rfl
theorem xy4 {s : Int} : ∀ {ships : List (List Int)} {i : Nat} (hi : i < ships.length), ((ships.getD i []).getD 0 0 == s) = true → (∀ j, j < i → ((ships.getD j []).getD 0 0 == s) = false) → xkg s ships = (ships[i].getD 0 0, decL (ships[i].getD 1 0))
 | [], i, hi, _, _ => by simp at hi
 | x :: r, 0, hi, hp, hn => by
  unfold xkg
  have : (x.getD 0 0 == s) = true := hp
  rw [List.find?_cons, this]; rfl
 | x :: r, i + 1, hi, hp, hn => by
  have h0 : (x.getD 0 0 == s) = false := hn 0 (by omega)
  have := xy4 (ships := r) (i := i) (by simpa using hi) hp fun j hj => hn (j + 1) (by omega)
  unfold xkg at this ⊢
  rw [List.find?_cons, h0]
  exact this
theorem xy3 {s : Int} : ∀ {ships : List (List Int)}, (∀ j, j < ships.length → ((ships.getD j []).getD 0 0 == s) = false) → xkg s ships = (0, [])
 | [], _ => rfl
 | x :: r, hn => by
  have h0 : (x.getD 0 0 == s) = false := hn 0 (by simp)
  have := xy3 (ships := r) fun j hj => hn (j + 1) (by simpa using hj)
  unfold xkg at this ⊢
  rw [List.find?_cons, h0]
  exact this
theorem xDr {ships : List (List Int)} {i : Nat} (hi : i < ships.length) : ships.getD i [] = ships[i] := by rw [List.getD_eq_getElem?_getD, List.getElem?_eq_getElem hi]; rfl
section
variable {E : Env} {w0 w : World} {a : Act} {s z : Int} {ships : List (List Int)}
theorem xzL {Q : Exit → Act → World → Prop} {b : Bool} {i : Nat} (hc : CfgOk [] E w0 24 (oC.st [.i s, .i i, .b b, .r ships, .i z]) a w) (hi : i < ships.length)
  (hQ : ∀ E' c' a' w', (∀ k, k < 4 → E' k = E k) → CfgOk [] E' w0 24 c' a' w' → xdX Tryz.prog c' ofF.results.toList = some [.agg [.int .i64 (ships[i].getD 0 0), .sl 4]] →
   (⟨4, 4, false, .row 29 xyy (decL (ships[i].getD 1 0))⟩ : Sy.Obj) ∈ c'.heap.objs → (∃ w2, Blw w0.heap.size w0 w2 ∧ ∀ g, blkO (E' 4) = some g → Inn E w2 0 (.nst 24 xyx ships) g) → Q .ret a' w') :
  (Code.seq (opc 5) .ret).wpIn (FR none) 0 Tryz.prog Q a w := by
 have hin : inR (i : Int) ships := ⟨by omega, by omega⟩
 have hgi : ships.getD (i : Int).toNat [] = ships[i] := by rw [Int.toNat_natCast]; exact xDr hi
 refine wpIn_seq (wpIn_region_list ?_)
 refine xsA (d := 19) hc rfl rfl (by omega) (x := ⟨none, [], 0, [], .sl 0⟩) (by kernel_rfl) trivial fun E1 v1 w1 hE1 hv1 hc1 => ?_
 refine xsA (d := 20) hc1 rfl rfl (by omega) (x := ⟨none, [], 0, [], .int .i64 i⟩) (by kernel_rfl) trivial fun E2 v2 w2 hE2 hv2 hc2 => ?_
 refine xsA (d := 21) hc2 rfl rfl (by omega) (x := ⟨some (inR i ships), [], 0, [], .ix 0 2 false i 0⟩) (by kernel_rfl) hin fun E3 v3 w3 hE3 hv3 hc3 => ?_
 refine xw4 (d := 22) (t := 24) (y := .tmp 21) (v := .ix 0 2 false i 0) hc3 rfl rfl (by omega) rfl (by kernel_rfl)
  (x := ⟨some (inR i ships), [], 1, [⟨4, 4, false, .row 29 xyy (decL ((ships.getD (i : Int).toNat []).getD 1 0))⟩], .agg [.int .i64 ((ships.getD (i : Int).toNat []).getD 0 0), .sl 4]⟩) (by kernel_rfl) hin fun E4 v4 hE4 hv4 hinn hc4 => ?_
 have hbl : Blw w0.heap.size w0 w3 := by obtain ⟨_, _, _, _, hH⟩ := hc3; exact hH.below
 refine xzR hc4 rfl rfl (x := ⟨none, [2], 0, [⟨2, 5, true, .cells [.int .i64 ((ships.getD (i : Int).toNat []).getD 0 0), .sl 4]⟩], .val undef⟩) (by kernel_rfl) trivial fun E5 w5 hE5 hc5 => ?_
 show Code.wpIn _ _ _ _ _ _ _
 refine wpIn_ret ?_
 rw [hgi] at hinn hc5
 refine hQ E5 _ _ w5 (fun k hk => ?_) hc5 (by kernel_rfl) (by exact List.mem_of_getElem? (i := 1) (by kernel_rfl)) ⟨w3, hbl, fun g hg => ?_⟩
 ·rw [hE5 k (by show k < 5; omega), hE4 k (by show k < 4; omega), hE3 k (by show k < 4; omega), hE2 k (by show k < 4; omega), hE1 k (by show k < 4; omega)]
 ·rw [hE5 4 (by show 4 < 5; omega)] at hg
  obtain ⟨o', ho', hi'⟩ := hinn _ (List.mem_singleton.2 rfl) g hg
  have e3 : E3 0 = E 0 := by rw [hE3 0 (by show 0 < 4; omega), hE2 0 (by show 0 < 4; omega), hE1 0 (by show 0 < 4; omega)]
  rcases List.mem_cons.1 ho' with rfl | ho'
  ·exact xfZ e3 hi'
  ·rw [List.mem_singleton.1 ho'] at hi'
   exact hi'.elim
theorem xA9 {Q : Exit → Act → World → Prop} (hlen : ships.length ≤ 9223372036854775807)
  (hno : (∀ j, j < ships.length → ((ships.getD j []).getD 0 0 == s) = false) → ∀ E' a' w', E' 0 = E 0 → CfgOk [] E' w0 24 (oL.st [.i s, .i ships.length, .r ships, .i z]) a' w' → Q (.exit 0) a' w')
  (hyes : ∀ i (hi : i < ships.length), ((ships.getD i []).getD 0 0 == s) = true → (∀ j, j < i → ((ships.getD j []).getD 0 0 == s) = false) → ∀ E' a' w', E' 0 = E 0 → CfgOk [] E' w0 24 (oC.st [.i s, .i i, .b true, .r ships, .i z]) a' w' →
   ∀ Q' : Exit → Act → World → Prop, (∀ a w, Q .ret a w → Q' .ret a w) → (Code.seq (opc 5) .ret).wpIn (FR none) 0 Tryz.prog Q' a' w') :
  ∀ (m i : Nat) (E1 : Env) (w : World) (a : Act), i + m = ships.length → (∀ j, j < i → ((ships.getD j []).getD 0 0 == s) = false) → E1 0 = E 0 → CfgOk [] E1 w0 24 (oL.st [.i s, .i i, .r ships, .i z]) a w → xni (FR none) 0 Tryz.prog xx9 Q a w := by
 intro m
 induction m with
 | zero =>
  intro i E1 w a him hn hE hc
  have hi : i = ships.length := by omega
  subst hi
  refine xdU (wpIn_seq (wpIn_seq (xaI xoN (i := 0) (y := .normal) (T := oB) hc (xAu _ _ _ _) rfl fun E2 a2 w2 hE2 hc2 => ?_)))
  have h9 := (hc2.point (t := 9) (v := .bool (decide ((ships.length : Int) < (ships.length : Int)))) (by kernel_rfl)).1
  refine wpIn_cond_false (h9.trans (by rw [decide_eq_false (by omega)]; rfl)) (wpIn_exit ?_)
  obtain ⟨E3, hE3, hc3⟩ := hc2.shape (P := Tryz.prog) (T := oL) (us := [.i s, .i ships.length, .r ships, .i z]) (by kernel_rfl)
  exact hno hn E3 a2 w2 (((hE3 0 (by show 0 < 3; omega)).trans (hE2 0 (by show 0 < 3; omega) (by show 0 < 3; omega))).trans hE) hc3
 | succ m ih =>
  intro i E1 w a him hn hE hc
  have hi : i < ships.length := by omega
  have hin : inR (i : Int) ships := ⟨by omega, by omega⟩
  refine xdU (wpIn_seq (wpIn_seq (xaI xoN (i := 0) (y := .normal) (T := oB) hc (xAu _ _ _ _) rfl fun E2 a2 w2 hE2 hc2 => ?_)))
  have h9 := (hc2.point (t := 9) (v := .bool (decide ((i : Int) < (ships.length : Int)))) (by kernel_rfl)).1
  refine wpIn_cond_true (h9.trans (by rw [decide_eq_true (by omega)]; rfl)) (wpIn_skip ?_)
  obtain ⟨E3, hE3, hc3⟩ := hc2.shape (P := Tryz.prog) (T := oL) (us := [.i s, .i i, .r ships, .i z]) (by kernel_rfl)
  show Code.wpIn _ _ _ _ _ _ _
  refine wpIn_seq (wpIn_block (wpIn_seq (xaI xoN (i := 0) (y := .normal) (T := oC) hc3 ((xBX s i ships z).trans (by unfold of4; rw [xaa hin, xaa hin, xaa hin])) rfl fun E4 a4 w4 hE4 hc4 => ?_)))
  have e4 : E4 0 = E 0 := (((hE4 0 (by show 0 < 3; omega) (by show 0 < 3; omega)).trans (hE3 0 (by show 0 < 3; omega))).trans (hE2 0 (by show 0 < 3; omega) (by show 0 < 3; omega))).trans hE
  have h18 := (hc4.point (t := 18) (v := .bool ((ships.getD (i : Int).toNat []).getD 0 0 == s)) (by kernel_rfl)).1
  rw [Int.toNat_natCast] at h18 hc4
  show Code.wpIn _ _ _ _ _ _ _
  cases hb : (ships.getD i []).getD 0 0 == s with
  | true =>
   rw [hb] at h18 hc4
   exact wpIn_cond_true h18 (hyes i hi hb hn E4 a4 w4 e4 hc4 _ fun a w h => h)
  | false =>
   rw [hb] at h18 hc4
   refine wpIn_cond_false h18 (wpIn_skip ?_)
   obtain ⟨E5, hE5, hc5⟩ := hc4.shape (P := Tryz.prog) (T := oL) (us := [.i s, .i i, .r ships, .i z]) (by kernel_rfl)
   show Code.wpIn _ _ _ _ _ _ _
   refine xaI xoN (i := 0) (y := .normal) (T := oL) hc5 (xBY _ _ _ _) rfl fun E6 a6 w6 hE6 hc6 => ?_
   have hw : IntKind.i64.wrap ((i : Int) + 1) = ((i + 1 : Nat) : Int) := by rw [xe3 (by omega)]; rfl
   rw [hw] at hc6
   refine ih (i + 1) E6 w6 a6 (by omega) (fun j hj => ?_) (((hE6 0 (by show 0 < 3; omega) (by show 0 < 3; omega)).trans (hE5 0 (by show 0 < 3; omega))).trans e4) hc6
   rcases Nat.lt_or_ge j i with h | h
   ·exact hn j h
   ·rw [show j = i by omega]; exact hb
end
noncomputable def xol : List U → Option Eff
 | [.i ship, .r ships] => some ⟨some (xfv ship ships), [], 1, [⟨1, 1, false, .row 29 [.int .i64, .int .i64, .int .i64, .int .u64] (xc5 ship ships)⟩], .agg [.int .i64 (xc6 ship ships), .sl 1]⟩
 | _ => Option.none
theorem xBa : xdm Tryz.prog 23 := ⟨ofF, Tryz.func23, by
 have : (ofF.name == "runtime.NumGoroutine") = false := by kernel_rfl
 simpa using this, by rw [xx8]; rfl⟩
theorem xzM {E2 : Env} {w : World} {s : Int} {ships : List (List Int)} (hp : xfv s ships) (hH : xaf [] E2 w ⟨(xaK 1 [.i s, .r ships] xmC 1).1, 1⟩ w) :
  Calls Tryz.prog 23 (AV.denL E2 [.sl 0, .int .i64 s]).toArray w fun e w' => ∃ E', e = .returned ((AV.agg [.int .i64 (xc6 s ships), .sl 1]).den E') ∧
   xle E2 w 1 ⟨some (xfv s ships), [], 1, [⟨1, 1, false, .row 29 [.int .i64, .int .i64, .int .i64, .int .u64] (xc5 s ships)⟩], .agg [.int .i64 (xc6 s ships), .sl 1]⟩ E' w' fun b => ∃ o ∈ (xaK 1 [.i s, .r ships] xmC 1).1, Inn E2 w o.key o.body b := by
 have hnst : (⟨0, 1, false, .nst 24 xyx ships⟩ : Sy.Obj) ∈ (xaK 1 [.i s, .r ships] xmC 1).1 := List.mem_singleton.2 rfl
 have done : ∀ (v : Value) (w' : World), v.oneCell' = true → Blw w.heap.size w w' → xaY w' false 29 4 v (xc5 s ships).length (rowV [.int .i64, .int .i64, .int .i64, .int .u64] (xc5 s ships)) →
   (∀ g, blkO v = some g → Inn E2 w 0 (.nst 24 xyx ships) g) → ∃ E', Ending.returned (.agg #[.int .i64 (xc6 s ships), v]) = .returned ((AV.agg [.int .i64 (xc6 s ships), .sl 1]).den E') ∧
   xle E2 w 1 ⟨some (xfv s ships), [], 1, [⟨1, 1, false, .row 29 [.int .i64, .int .i64, .int .i64, .int .u64] (xc5 s ships)⟩], .agg [.int .i64 (xc6 s ships), .sl 1]⟩ E' w' fun b => ∃ o ∈ (xaK 1 [.i s, .r ships] xmC 1).1, Inn E2 w o.key o.body b := by
  intro v w' hv hbl hr hi
  have e1 : (fun k => if k = 1 then v else E2 k : Env) 1 = v := if_pos rfl
  refine ⟨fun k => if k = 1 then v else E2 k, rfl, ⟨fun k hk => if_neg (by omega), fun k => ?_, hbl, fun o ho => ?_, fun o ho b hb => ?_, fun o ho o' ho' hown hne => ?_, fun o ho b hb => ?_, fun o ho b hb => ?_⟩⟩
  ·show (if k = 1 then v else E2 k).oneCell' = true
   split
   ·exact hv
   ·exact hH.env k
  ·rw [List.mem_singleton.1 ho]
   exact hr
  ·rw [List.mem_singleton.1 ho] at hb ⊢
   exact .inr ⟨rfl, rfl, _, hnst, hi b hb⟩
  ·rw [List.mem_singleton.1 ho] at hown
   cases hown
  ·rw [List.mem_singleton.1 ho] at hb
   exact hb.elim
  ·rw [List.mem_singleton.1 ho] at hb
   exact hb.elim
 refine xnU (P := Tryz.prog) (fn := ofF) (code := ofB) Tryz.func23 xx8 (by rw [xvX]; exact (by decide : 2 ≤ 24)) hH ⟨(by show 0 < 1; omega), trivial, trivial⟩ fun a hc => ?_
 rw [xvX] at hc ⊢
 obtain ⟨E1, hE1, hc1⟩ := hc.shape (P := Tryz.prog) (T := o0) (us := [.i s, .r ships]) (by kernel_rfl)
 have e1 : E1 0 = E2 0 := hE1 0 (by show 0 < 1; omega)
 rw [xwZ]
 refine wpIn_seq (xaI xoN (i := 0) (y := .normal) (T := oA) hc1 (xB0 _ _) rfl fun E3 a3 w3 hE3 hc3 => ?_)
 have e3 : E3 0 = E2 0 := (hE3 0 (by show 0 < 1; omega) (by show 0 < 3; omega)).trans e1
 show Code.wpIn _ _ _ _ _ _ _
 refine wpIn_seq (wpIn_seq (xaI xoN (i := 0) (y := .normal) (T := oL) hc3 (xBZ _ _ _) rfl fun E4 a4 w4 hE4 hc4 => ?_))
 have e4 : E4 0 = E2 0 := (hE4 0 (by show 0 < 3; omega) (by show 0 < 3; omega)).trans e3
 show Code.wpIn _ _ _ _ _ _ _
 refine wpIn_block (xgw (xA9 (E := E2) hp (fun hno E5 a5 w5 e5 hc5 => ?_) (fun i hi hb hn E5 a5 w5 e5 hc5 Q' hQ' => ?_) ships.length 0 E4 w4 a4 (by omega) (fun j hj => by omega) e4 hc4))
 ·have e0 : ∀ Q' : Exit → Act → World → Prop, Exit.inBlock 0 Q' (.exit 0) a5 w5 = Q' .normal a5 w5 := fun Q' => by
   show (if (0 : Nat) = 0 then Q' .normal a5 w5 else Q' (.exit 0) a5 w5) = _
   rw [if_pos rfl]
  rw [e0]
  show Code.wpIn _ _ _ _ _ _ _
  refine wpIn_seq (xaI xoN (i := 0) (y := .normal) (T := oL) hc5 (xBW _ _ _ _) rfl fun E6 a6 w6 hE6 hc6 => ?_)
  show Code.wpIn _ _ _ _ _ _ _
  refine wpIn_ret ⟨[], E6, _, .agg [.int .i64 0, .val (.slice none 0 0)], hc6, by kernel_rfl, fun w' hH' => ?_⟩
  have hf := xy3 hno
  have h0 : xc6 s ships = 0 := congrArg Prod.fst hf
  have h1 : xc5 s ships = [] := congrArg Prod.snd hf
  have := done (.slice none 0 0) w' rfl hH'.below (by
   rw [h1]
   have hr : xaY w' true 29 4 (.slice none 0 0) 0 [] := xcc (.inl ⟨none, rfl, rfl⟩) rfl
   exact ⟨hr.reads, hr.len, fun h => by cases h⟩) fun g hg => by cases hg
  rw [h0] at this ⊢
  exact this
 ·refine xzL hc5 hi fun E6 c' a6 w6 hE6 hc6 hres hmem ⟨w2, hbl2, hinn⟩ => hQ' _ _ ⟨[], E6, c', _, hc6, hres, fun w' hH' => ?_⟩
  have hf := xy4 hi hb hn
  have h0 : xc6 s ships = ships[i].getD 0 0 := congrArg Prod.fst hf
  have h1 : xc5 s ships = decL (ships[i].getD 1 0) := congrArg Prod.snd hf
  have hb4 := hH'.objs _ hmem
  have := done (E6 4) w' (hH'.env 4) hH'.below (by rw [h1]; exact hb4) fun g hg => by
   have h2 := hinn g hg
   exact xhY (hH.objs _ hnst) e5 (fun g hg => hbl2.block g (xlF (hH.objs _ hnst) hg)) h2
  rw [h0] at this ⊢
  exact this
noncomputable def KOf : Con := ext Tryz.prog K43 23 [.sl 0, .int .i64 0] [⟨0, 0, false, .nst 24 [.c (.int .i64), .s 29 [.int .i64, .int .i64, .int .i64, .int .u64]] []⟩] xol
theorem xCE : xbc Tryz.prog KOf := xrN xoN rfl rfl fun us x h => by
 unfold xol at h
 split at h
 ·cases h
  exact ⟨xBa, ⟨rfl, fun o ho => (by rw [List.mem_singleton.1 ho]; exact ⟨Nat.le_refl _, by show 1 < 1 + 1; omega⟩), by simp, fun o ho => (by rw [List.mem_singleton.1 ho]; rfl), ⟨trivial, (by show 1 < 1 + 1; omega), trivial⟩, fun o ho => (by rw [List.mem_singleton.1 ho]; exact Nat.le_refl _)⟩, fun hp E2 w hH => xzM hp hH⟩
 ·cases h
end Go.Proofs.YtikhnofbbcmpeaaGreat
set_option maxRecDepth 100000
set_option linter.unusedVariables false
namespace Go.Proofs.YtikhnofbbcmpeaaGreat
open Go Go.Sy
noncomputable def xhL (n : Int) (list : List (List Int)) : List U :=
 [.i ((0 : Int)), .r ([])]
noncomputable def xcL (n : Int) (list : List (List Int)) (y0 : List U) : Option (Nat × List U) :=
 (bif decide (gi y0 0 < (↑list.length : Int)) then xab (inR (gi y0 0) list) (xab (inR (gi y0 0) list) ((bif decide ((list.getD (gi y0 0).toNat []).getD 0 (0 : Int) < n) then xab (inR (gi y0 0) list) (xab (inR (gi y0 0) list) (xab (xbl 8 ((gr y0 1).length + [[(list.getD (gi y0 0).toNat []).getD 0 (0 : Int)]].length)) (some (0, [.i (IntKind.i64.wrap (gi y0 0 + (1 : Int))), .r (gr y0 1 ++ [[(list.getD (gi y0 0).toNat []).getD 0 (0 : Int)]])])))) else some (0, [.i (IntKind.i64.wrap (gi y0 0 + (1 : Int))), .r (gr y0 1)])))) else some (3, [.i (gi y0 0), .r (gr y0 1)]))
noncomputable def xjd (n : Int) (list : List (List Int)) : Nat × List U := xam (xcL n list) (xhL n list)
noncomputable def xeA (n : Int) (list : List (List Int)) : List U :=
 [.i ((0 : Int)), .r (gr (xjd n list).snd 1 ++ [[n]])]
noncomputable def xdq (n : Int) (list : List (List Int)) (y1 : List U) : Option (Nat × List U) :=
 (bif decide (gi y1 0 < (↑list.length : Int)) then xab (inR (gi y1 0) list) (xab (inR (gi y1 0) list) ((bif decide ((list.getD (gi y1 0).toNat []).getD 0 (0 : Int) > n) then xab (inR (gi y1 0) list) (xab (inR (gi y1 0) list) (xab (xbl 8 ((gr y1 1).length + [[(list.getD (gi y1 0).toNat []).getD 0 (0 : Int)]].length)) (some (0, [.i (IntKind.i64.wrap (gi y1 0 + (1 : Int))), .r (gr y1 1 ++ [[(list.getD (gi y1 0).toNat []).getD 0 (0 : Int)]])])))) else some (0, [.i (IntKind.i64.wrap (gi y1 0 + (1 : Int))), .r (gr y1 1)])))) else some (3, [.i (gi y1 0), .r (gr y1 1)]))
noncomputable def xmp (n : Int) (list : List (List Int)) : Nat × List U := xam (xdq n list) (xeA n list)
noncomputable def xft (n : Int) (list : List (List Int)) : List (List Int) :=
 gr (xmp n list).snd 1
def xeb (n : Int) (list : List (List Int)) : Prop :=
 (((xax (xcL n list) (xhL n list))) ∧ ((xbl 8 ((gr (xjd n list).snd 1).length + [[n]].length)) ∧ ((xax (xdq n list) (xeA n list)))))
noncomputable def xfG (time delay : Int) (ships chances : List (List Int)) (y0 : List U) : List U :=
 [.i ((0 : Int)), .r ([])]
noncomputable def xbX (time delay : Int) (ships chances : List (List Int)) (y0 : List U) (y1 : List U) : Option (Nat × List U) :=
 (bif decide (gi y1 0 < (↑chances.length : Int)) then xab (inR (gi y1 0) chances) (xab (inR (gi y1 0) chances) (xab (inR (gi y0 0) ships) (xab (inR (gi y0 0) ships) (xab (xeU ((ships.getD (gi y0 0).toNat []).getD 0 (0 : Int)) (3 : Int) ((chances.getD (gi y1 0).toNat []).getD 1 (0 : Int)) (0 : Int) time
 (decL ((ships.getD (gi y0 0).toNat []).getD 1 (0 : Int)))) (xab (inR (gi y0 0) ships) (xab (inR (gi y0 0) ships) (xab (inR (gi y0 0) ships) ((bif (chances.getD (gi y1 0).toNat []).getD 0 (0 : Int) == (ships.getD (gi y0 0).toNat []).getD 0 (0 : Int) &&
  decide (IntKind.i64.wrap ((chances.getD (gi y1 0).toNat []).getD 2 (0 : Int) + delay) ≤ time) &&
 !xeD ((ships.getD (gi y0 0).toNat []).getD 0 (0 : Int)) (3 : Int) ((chances.getD (gi y1 0).toNat []).getD 1 (0 : Int)) (0 : Int) time
   (decL ((ships.getD (gi y0 0).toNat []).getD 1 (0 : Int))) then xab (xeb ((chances.getD (gi y1 0).toNat []).getD 1 (0 : Int)) (gr y1 1)) (some (0, [.i (IntKind.i64.wrap (gi y1 0 + (1 : Int))), .r (xft ((chances.getD (gi y1 0).toNat []).getD 1 (0 : Int)) (gr y1 1))])) else some (0, [.i (IntKind.i64.wrap (gi y1 0 + (1 : Int))), .r (gr y1 1)])))))))))) else some (3, [.i (gi y1 0), .r (gr y1 1)]))
noncomputable def xfH (time delay : Int) (ships chances : List (List Int)) (y0 : List U) : Nat × List U := xam (xbX time delay ships chances y0) (xfG time delay ships chances y0)
noncomputable def xjc (time delay : Int) (ships chances : List (List Int)) (y0 y2 : List U) : List (List Int) :=
 [[(ships.getD (gi y0 0).toNat []).getD 0 (0 : Int), ((gr (xfH time delay ships chances y0).snd 1).getD (gi y2 0).toNat []).getD 0 (0 : Int)]]
noncomputable def xfF (time delay : Int) (ships chances : List (List Int)) (y0 : List U) : List U :=
 [.i ((0 : Int)), .r (gr y0 1)]
noncomputable def xbW (time delay : Int) (ships chances : List (List Int)) (y0 : List U) (y2 : List U) : Option (Nat × List U) :=
 (bif decide (gi y2 0 < (↑(gr (xfH time delay ships chances y0).snd 1).length : Int)) then xab (inR (gi y0 0) ships) (xab (inR (gi y0 0) ships) (xab (inR (gi y0 0) ships) (xab (inR (gi y2 0) (gr (xfH time delay ships chances y0).snd 1)) (xab (inR (gi y2 0) (gr (xfH time delay ships chances y0).snd 1)) (xab (xbl 16 ((gr y2 1).length + ((xjc time delay ships chances y0 y2)).length)) (some (0, [.i (IntKind.i64.wrap (gi y2 0 + (1 : Int))), .r (gr y2 1 ++ (xjc time delay ships chances y0 y2))]))))))) else some (2, [.i (gi y2 0), .r (gr y2 1)]))
noncomputable def xmo (time delay : Int) (ships chances : List (List Int)) (y0 : List U) : Nat × List U := xam (xbW time delay ships chances y0) (xfF time delay ships chances y0)
noncomputable def xhK (time delay : Int) (ships chances : List (List Int)) : List U :=
 [.i ((0 : Int)), .r ([])]
noncomputable def xcK (time delay : Int) (ships chances : List (List Int)) (y0 : List U) : Option (Nat × List U) :=
 (bif decide (gi y0 0 < (↑ships.length : Int)) then xab ((xax (xbX time delay ships chances y0) (xfG time delay ships chances y0))) (xab ((xax (xbW time delay ships chances y0) (xfF time delay ships chances y0))) (some (0, [.i (IntKind.i64.wrap (gi y0 0 + (1 : Int))), .r (gr (xmo time delay ships chances y0).snd 1)]))) else some (2, [.i (gi y0 0), .r (gr y0 1)]))
noncomputable def xsf (time delay : Int) (ships chances : List (List Int)) : Nat × List U := xam (xcK time delay ships chances) (xhK time delay ships chances)
noncomputable def xaz (time delay : Int) (ships chances : List (List Int)) : List (List Int) :=
 gr (xsf time delay ships chances).snd 1
def xfd (time delay : Int) (ships chances : List (List Int)) : Prop :=
 ((xax (xcK time delay ships chances) (xhK time delay ships chances)))
noncomputable def xjD (ship_Owner time delay g_Ship g_Item : Int) (ship_Lines chances : List (List Int)) : List U :=
 [.b (false), .i ((0 : Int))]
noncomputable def xdn (ship_Owner time delay g_Ship g_Item : Int) (ship_Lines chances : List (List Int)) (y0 : List U) : Option (Nat × List U) :=
 (bif decide (gi y0 1 < (↑chances.length : Int)) then xab (inR (gi y0 1) chances) (xab (inR (gi y0 1) chances) ((bif (chances.getD (gi y0 1).toNat []).getD 0 (0 : Int) != g_Ship || (chances.getD (gi y0 1).toNat []).getD 1 (0 : Int) != g_Item ||
 decide (IntKind.i64.wrap ((chances.getD (gi y0 1).toNat []).getD 2 (0 : Int) + delay) > time) then some (0, [.b (gb y0 0), .i (IntKind.i64.wrap (gi y0 1 + (1 : Int)))]) else xab (xfJ ship_Owner ((chances.getD (gi y0 1).toNat []).getD 2 (0 : Int)) ship_Lines) (xab (((!xdW ship_Owner ((chances.getD (gi y0 1).toNat []).getD 2 (0 : Int)) ship_Lines && decide ((↑ship_Lines.length : Int) > (0 : Int))) = true) → (inR (IntKind.i64.wrap ((↑ship_Lines.length : Int) - (1 : Int))) ship_Lines)) (xab (((!xdW ship_Owner ((chances.getD (gi y0 1).toNat []).getD 2 (0 : Int)) ship_Lines && decide ((↑ship_Lines.length : Int) > (0 : Int))) = true) → (inR (IntKind.i64.wrap ((↑ship_Lines.length : Int) - (1 : Int))) ship_Lines)) (xab (((!xdW ship_Owner ((chances.getD (gi y0 1).toNat []).getD 2 (0 : Int)) ship_Lines && decide ((↑ship_Lines.length : Int) > (0 : Int))) = true) → (inR (IntKind.i64.wrap ((↑ship_Lines.length : Int) - (1 : Int))) ship_Lines)) ((bif !xdW ship_Owner ((chances.getD (gi y0 1).toNat []).getD 2 (0 : Int)) ship_Lines && decide ((↑ship_Lines.length : Int) > (0 : Int)) &&
 decide ((ship_Lines.getD (IntKind.i64.wrap ((↑ship_Lines.length : Int) - (1 : Int))).toNat []).getD 0 (0 : Int) ≥ (chances.getD (gi y0 1).toNat []).getD 2 (0 : Int)) then some (2, []) else some (0, [.b (gb y0 0), .i (IntKind.i64.wrap (gi y0 1 + (1 : Int)))]))))))))) else some (4, [.b (gb y0 0), .i (gi y0 1)]))
noncomputable def xuL (ship_Owner time delay g_Ship g_Item : Int) (ship_Lines chances : List (List Int)) : Nat × List U := xam (xdn ship_Owner time delay g_Ship g_Item ship_Lines chances) (xjD ship_Owner time delay g_Ship g_Item ship_Lines chances)
noncomputable def xiu (ship_Owner time delay g_Ship g_Item : Int) (ship_Lines chances : List (List Int)) : Bool :=
 bif (xuL ship_Owner time delay g_Ship g_Item ship_Lines chances).fst.beq 2 then false else true
def xfu (ship_Owner time delay g_Ship g_Item : Int) (ship_Lines chances : List (List Int)) : Prop :=
 ((xax (xdn ship_Owner time delay g_Ship g_Item ship_Lines chances) (xjD ship_Owner time delay g_Ship g_Item ship_Lines chances)))
noncomputable def xom (office_Owner time delay : Int) (office_Lines ships chances : List (List Int)) (y0 : List U) : Int :=
 bif
  xiu (xc6 (((xaz time delay ships chances).getD (gi y0 0).toNat []).getD 0 (0 : Int)) ships) time delay
   (((xaz time delay ships chances).getD (gi y0 0).toNat []).getD 0 (0 : Int))
   (((xaz time delay ships chances).getD (gi y0 0).toNat []).getD 1 (0 : Int))
   (xc5 (((xaz time delay ships chances).getD (gi y0 0).toNat []).getD 0 (0 : Int)) ships) chances then
 (1 : Int)
else (0 : Int)
noncomputable def xj8 (office_Owner time delay : Int) (office_Lines ships chances : List (List Int)) (y0 : List U) : List Int :=
 [((xaz time delay ships chances).getD (gi y0 0).toNat []).getD 1 (0 : Int),
 bif !xeD office_Owner (1 : Int) (((xaz time delay ships chances).getD (gi y0 0).toNat []).getD 1 (0 : Int)) (0 : Int) (10000000 : Int) office_Lines then (1 : Int)
 else (0 : Int),
 (xom office_Owner time delay office_Lines ships chances y0)]
noncomputable def xiy (office_Owner time delay : Int) (office_Lines ships chances : List (List Int)) : List U :=
 [.i ((0 : Int)), .r ([])]
noncomputable def xc9 (office_Owner time delay : Int) (office_Lines ships chances : List (List Int)) (y0 : List U) : Option (Nat × List U) :=
 (bif decide (gi y0 0 < (↑(xaz time delay ships chances).length : Int)) then xab (inR (gi y0 0) (xaz time delay ships chances)) (xab (inR (gi y0 0) (xaz time delay ships chances)) (xab (inR (gi y0 0) (xaz time delay ships chances)) (xab (xeU office_Owner (1 : Int) (((xaz time delay ships chances).getD (gi y0 0).toNat []).getD 1 (0 : Int)) (0 : Int) (10000000 : Int) office_Lines) (xab (inR (gi y0 0) (xaz time delay ships chances)) (xab (inR (gi y0 0) (xaz time delay ships chances)) (xab (inR (gi y0 0) (xaz time delay ships chances)) (xab (xfv (((xaz time delay ships chances).getD (gi y0 0).toNat []).getD 0 (0 : Int)) ships) (xab (inR (gi y0 0) (xaz time delay ships chances)) (xab (inR (gi y0 0) (xaz time delay ships chances)) (xab (xfu (xc6 (((xaz time delay ships chances).getD (gi y0 0).toNat []).getD 0 (0 : Int)) ships) time delay
 (((xaz time delay ships chances).getD (gi y0 0).toNat []).getD 0 (0 : Int))
 (((xaz time delay ships chances).getD (gi y0 0).toNat []).getD 1 (0 : Int))
 (xc5 (((xaz time delay ships chances).getD (gi y0 0).toNat []).getD 0 (0 : Int)) ships) chances) (xab (inR (gi y0 0) (xaz time delay ships chances)) (xab (inR (gi y0 0) (xaz time delay ships chances)) (xab (xbl 24 ((gr y0 1).length + [((xaz time delay ships chances).getD (gi y0 0).toNat []).getD 0 (0 : Int) :: (xj8 office_Owner time delay office_Lines ships chances y0)].length)) (some (0, [.i (IntKind.i64.wrap (gi y0 0 + (1 : Int))), .r (gr y0 1 ++ [((xaz time delay ships chances).getD (gi y0 0).toNat []).getD 0 (0 : Int) :: (xj8 office_Owner time delay office_Lines ships chances y0)])]))))))))))))))) else some (2, [.i (gi y0 0), .r (gr y0 1)]))
noncomputable def xtq (office_Owner time delay : Int) (office_Lines ships chances : List (List Int)) : Nat × List U := xam (xc9 office_Owner time delay office_Lines ships chances) (xiy office_Owner time delay office_Lines ships chances)
noncomputable def xfl (office_Owner time delay : Int) (office_Lines ships chances : List (List Int)) : List (List Int) :=
 gr (xtq office_Owner time delay office_Lines ships chances).snd 1
def xeV (office_Owner time delay : Int) (office_Lines ships chances : List (List Int)) : Prop :=
 ((xfd time delay ships chances) ∧ ((xax (xc9 office_Owner time delay office_Lines ships chances) (xiy office_Owner time delay office_Lines ships chances))))
noncomputable def xgi (x_Gap_Ship x_Gap_Item : Int) (x_Sent x_On : Bool) (o_Kind o_Ship o_Item : Int) : Bool :=
 bif o_Kind == (1 : Int) then x_Sent && o_Ship == (0 : Int) && o_Item == x_Gap_Item
else bif o_Kind == (2 : Int) then x_On && o_Ship == x_Gap_Ship && o_Item == (0 : Int) else o_Kind == (3 : Int) && o_Ship == x_Gap_Ship && o_Item == x_Gap_Item
noncomputable def xc3 (a_Kind a_Ship a_Item b_Kind b_Ship b_Item : Int) : Bool :=
 bif a_Kind != b_Kind then decide (a_Kind < b_Kind) else bif a_Ship != b_Ship then decide (a_Ship < b_Ship) else decide (a_Item < b_Item)
noncomputable def xck (list omissions : List (List Int)) : List U :=
 [.b (false), .i ((1 : Int))]
noncomputable def xbh (list omissions : List (List Int)) (y0 : List U) : Option (Nat × List U) :=
 (bif decide (gi y0 1 < (↑omissions.length : Int)) then xab (inR (IntKind.i64.wrap (gi y0 1 - (1 : Int))) omissions) (xab (inR (IntKind.i64.wrap (gi y0 1 - (1 : Int))) omissions) (xab (inR (gi y0 1) omissions) (xab (inR (gi y0 1) omissions) ((bif !xc3 ((omissions.getD (IntKind.i64.wrap (gi y0 1 - (1 : Int))).toNat []).getD 0 (0 : Int))
  ((omissions.getD (IntKind.i64.wrap (gi y0 1 - (1 : Int))).toNat []).getD 1 (0 : Int))
  ((omissions.getD (IntKind.i64.wrap (gi y0 1 - (1 : Int))).toNat []).getD 2 (0 : Int)) ((omissions.getD (gi y0 1).toNat []).getD 0 (0 : Int))
  ((omissions.getD (gi y0 1).toNat []).getD 1 (0 : Int)) ((omissions.getD (gi y0 1).toNat []).getD 2 (0 : Int)) then some (1, []) else some (0, [.b (gb y0 0), .i (IntKind.i64.wrap (gi y0 1 + (1 : Int)))])))))) else some (3, [.b (gb y0 0), .i (gi y0 1)]))
noncomputable def xc8 (list omissions : List (List Int)) : Nat × List U := xam (xbh list omissions) (xck list omissions)
noncomputable def xek (list omissions : List (List Int)) (y1 : List U) : List U :=
 [.b (false), .i ((0 : Int))]
noncomputable def xcj (list omissions : List (List Int)) (y1 : List U) (y2 : List U) : Option (Nat × List U) :=
 (bif decide (gi y2 1 < (↑omissions.length : Int)) then xab ((gb y2 0 = false) → (inR (gi y1 1) list)) (xab ((gb y2 0 = false) → (inR (gi y1 1) list)) (xab ((gb y2 0 = false) → (inR (gi y2 1) omissions)) (xab ((gb y2 0 = false) → (inR (gi y2 1) omissions)) (some (0, [.b (gb y2 0 ||
 xgi ((list.getD (gi y1 1).toNat []).getD 0 (0 : Int)) ((list.getD (gi y1 1).toNat []).getD 1 (0 : Int))
  ((list.getD (gi y1 1).toNat []).getD 2 (0 : Int) != (0 : Int)) ((list.getD (gi y1 1).toNat []).getD 3 (0 : Int) != (0 : Int))
  ((omissions.getD (gi y2 1).toNat []).getD 0 (0 : Int)) ((omissions.getD (gi y2 1).toNat []).getD 1 (0 : Int))
  ((omissions.getD (gi y2 1).toNat []).getD 2 (0 : Int))), .i (IntKind.i64.wrap (gi y2 1 + (1 : Int)))]))))) else some (2, [.b (gb y2 0), .i (gi y2 1)]))
noncomputable def xix (list omissions : List (List Int)) (y1 : List U) : Nat × List U := xam (xcj list omissions y1) (xek list omissions y1)
noncomputable def xf9 (list omissions : List (List Int)) : List U :=
 [.b (gb (xc8 list omissions).snd 0), .i ((0 : Int))]
noncomputable def xaZ (list omissions : List (List Int)) (y1 : List U) : Option (Nat × List U) :=
 (bif decide (gi y1 1 < (↑list.length : Int)) then xab ((xax (xcj list omissions y1) (xek list omissions y1))) ((bif !gb (xix list omissions y1).snd 0 then some (1, []) else some (0, [.b (gb y1 0), .i (IntKind.i64.wrap (gi y1 1 + (1 : Int)))]))) else some (3, [.b (gb y1 0), .i (gi y1 1)]))
noncomputable def xnv (list omissions : List (List Int)) : Nat × List U := xam (xaZ list omissions) (xf9 list omissions)
noncomputable def xdo (list omissions : List (List Int)) : Bool :=
 bif (xc8 list omissions).fst.beq 1 then false else bif (xnv list omissions).fst.beq 1 then false else true
def xdr (list omissions : List (List Int)) : Prop :=
 (((xax (xbh list omissions) (xck list omissions))) ∧ (((xc8 list omissions).fst.beq 1 = false) → ((xax (xaZ list omissions) (xf9 list omissions)))))
noncomputable def xhk (a b : List (List Int)) : List U :=
 [.b (false), .i ((0 : Int))]
noncomputable def xbL (a b : List (List Int)) (y0 : List U) : Option (Nat × List U) :=
 (bif decide (gi y0 1 < (↑a.length : Int)) then xab (inR (gi y0 1) a) (xab (inR (gi y0 1) a) (xab (inR (gi y0 1) b) (xab (inR (gi y0 1) b) ((bif !((a.getD (gi y0 1).toNat []).getD 0 (0 : Int) == (b.getD (gi y0 1).toNat []).getD 0 (0 : Int) &&
  ((a.getD (gi y0 1).toNat []).getD 1 (0 : Int) == (b.getD (gi y0 1).toNat []).getD 1 (0 : Int) &&
   ((a.getD (gi y0 1).toNat []).getD 2 (0 : Int) == (b.getD (gi y0 1).toNat []).getD 2 (0 : Int) && true))) then xab (inR (gi y0 1) a) (xab (inR (gi y0 1) a) (xab (inR (gi y0 1) b) (xab (inR (gi y0 1) b) (some (1, [.b (xc3 ((a.getD (gi y0 1).toNat []).getD 0 (0 : Int)) ((a.getD (gi y0 1).toNat []).getD 1 (0 : Int))
 ((a.getD (gi y0 1).toNat []).getD 2 (0 : Int)) ((b.getD (gi y0 1).toNat []).getD 0 (0 : Int)) ((b.getD (gi y0 1).toNat []).getD 1 (0 : Int))
 ((b.getD (gi y0 1).toNat []).getD 2 (0 : Int)))]))))) else some (0, [.b (gb y0 0), .i (IntKind.i64.wrap (gi y0 1 + (1 : Int)))])))))) else some (3, [.b (gb y0 0), .i (gi y0 1)]))
noncomputable def xli (a b : List (List Int)) : Nat × List U := xam (xbL a b) (xhk a b)
noncomputable def xgZ (a b : List (List Int)) : Bool :=
 bif (xli a b).fst.beq 1 then gb (xli a b).snd 0 else false
def xeF (a b : List (List Int)) : Prop :=
 ((xax (xbL a b) (xhk a b)))
end Go.Proofs.YtikhnofbbcmpeaaGreat
set_option maxRecDepth 100000
set_option linter.unusedVariables false
namespace Go.Proofs.YtikhnofbbcmpeaaGreat
open Go Go.Sy
theorem xqZ (n : Int) (list : List (List Int)) : xas Tryz.prog 1 (xa1 Tryz.prog KOf xcQ 9 81 [.sl 0, .int .i64 n] ⟨[⟨0, 1, false, .row 3 [.int .i64] list⟩], 1⟩) = some ⟨some (xeb n list), [], 1, [⟨1, 1, true, .row 3 [.int .i64] (xft n list)⟩], .sl 1⟩ := by kernel_rfl
noncomputable def xlh : List U → Option Eff
 | [.i n, .r list] => some ⟨some (xeb n list), [], 1, [⟨1, 1, true, .row 3 [.int .i64] (xft n list)⟩], .sl 1⟩
 | _ => Option.none
noncomputable def K45 : Con := ext Tryz.prog KOf 81 [.sl 0, .int .i64 0] [⟨0, 0, false, .row 3 [.int .i64] []⟩] xlh
theorem xCN : xbc Tryz.prog K45 := xav xaB xCE (n := 9) rfl rfl fun us x h => by
 unfold xlh at h
 split at h
 ·cases h; exact ⟨some (xeb _ _), xqZ _ _, fun h => h⟩
 ·cases h
theorem xqY (time delay : Int) (ships chances : List (List Int)) : xas Tryz.prog 2 (xa1 Tryz.prog K45 xcQ 9 59 [.sl 0, .sl 1, .int .i64 time, .int .i64 delay] ⟨[⟨0, 2, false, .nst 24 [.c (.int .i64), .s 29 [.int .i64, .int .i64, .int .i64, .int .u64]] ships⟩, ⟨1, 2, false, .row 41 [.int .i64, .int .i64, .int .i64] chances⟩], 2⟩) = some ⟨some (xfd time delay ships chances), [], 1, [⟨2, 2, true, .row 52 [.int .i64, .int .i64] (xaz time delay ships chances)⟩], .sl 2⟩ := by kernel_rfl
noncomputable def xlg : List U → Option Eff
 | [.i time, .i delay, .r ships, .r chances] => some ⟨some (xfd time delay ships chances), [], 1, [⟨2, 2, true, .row 52 [.int .i64, .int .i64] (xaz time delay ships chances)⟩], .sl 2⟩
 | _ => Option.none
noncomputable def K46 : Con := ext Tryz.prog K45 59 [.sl 0, .sl 1, .int .i64 0, .int .i64 0] [⟨0, 0, false, .nst 24 [.c (.int .i64), .s 29 [.int .i64, .int .i64, .int .i64, .int .u64]] []⟩, ⟨1, 0, false, .row 41 [.int .i64, .int .i64, .int .i64] []⟩] xlg
theorem xCM : xbc Tryz.prog K46 := xav xaB xCN (n := 9) rfl rfl fun us x h => by
 unfold xlg at h
 split at h
 ·cases h; exact ⟨some (xfd _ _ _ _), xqY _ _ _ _, fun h => h⟩
 ·cases h
theorem xtm (ship_Owner time delay g_Ship g_Item : Int) (ship_Lines chances : List (List Int)) : xas Tryz.prog 2 (xa1 Tryz.prog K46 xcQ 9 60 [.agg [.int .i64 ship_Owner, .sl 0], .sl 1, .int .i64 time, .int .i64 delay, .agg [.int .i64 g_Ship, .int .i64 g_Item]] ⟨[⟨0, 2, false, .row 29 [.int .i64, .int .i64, .int .i64, .int .u64] ship_Lines⟩, ⟨1, 2, false, .row 41 [.int .i64, .int .i64, .int .i64] chances⟩], 2⟩) = some ⟨some (xfu ship_Owner time delay g_Ship g_Item ship_Lines chances), [], 0, [], .bool (xiu ship_Owner time delay g_Ship g_Item ship_Lines chances)⟩ := by kernel_rfl
noncomputable def xok : List U → Option Eff
 | [.i ship_Owner, .i time, .i delay, .i g_Ship, .i g_Item, .r ship_Lines, .r chances] => some ⟨some (xfu ship_Owner time delay g_Ship g_Item ship_Lines chances), [], 0, [], .bool (xiu ship_Owner time delay g_Ship g_Item ship_Lines chances)⟩
 | _ => Option.none
noncomputable def K47 : Con := ext Tryz.prog K46 60 [.agg [.int .i64 0, .sl 0], .sl 1, .int .i64 0, .int .i64 0, .agg [.int .i64 0, .int .i64 0]] [⟨0, 0, false, .row 29 [.int .i64, .int .i64, .int .i64, .int .u64] []⟩, ⟨1, 0, false, .row 41 [.int .i64, .int .i64, .int .i64] []⟩] xok
theorem xCL : xbc Tryz.prog K47 := xav xaB xCM (n := 9) rfl rfl fun us x h => by
 unfold xok at h
 split at h
 ·cases h; exact ⟨some (xfu _ _ _ _ _ _ _), xtm _ _ _ _ _ _ _, fun h => h⟩
 ·cases h
theorem xsk (office_Owner time delay : Int) (office_Lines ships chances : List (List Int)) : xas Tryz.prog 3 (xa1 Tryz.prog K47 xcQ 9 25 [.agg [.int .i64 office_Owner, .sl 0], .sl 1, .sl 2, .int .i64 time, .int .i64 delay] ⟨[⟨0, 3, false, .row 29 [.int .i64, .int .i64, .int .i64, .int .u64] office_Lines⟩, ⟨1, 3, false, .nst 24 [.c (.int .i64), .s 29 [.int .i64, .int .i64, .int .i64, .int .u64]] ships⟩, ⟨2, 3, false, .row 41 [.int .i64, .int .i64, .int .i64] chances⟩], 3⟩) = some ⟨some (xeV office_Owner time delay office_Lines ships chances), [], 1, [⟨3, 3, true, .row 105 [.int .i64, .int .i64, .bool, .bool] (xfl office_Owner time delay office_Lines ships chances)⟩], .sl 3⟩ := by kernel_rfl
noncomputable def xmw : List U → Option Eff
 | [.i office_Owner, .i time, .i delay, .r office_Lines, .r ships, .r chances] => some ⟨some (xeV office_Owner time delay office_Lines ships chances), [], 1, [⟨3, 3, true, .row 105 [.int .i64, .int .i64, .bool, .bool] (xfl office_Owner time delay office_Lines ships chances)⟩], .sl 3⟩
 | _ => Option.none
noncomputable def K48 : Con := ext Tryz.prog K47 25 [.agg [.int .i64 0, .sl 0], .sl 1, .sl 2, .int .i64 0, .int .i64 0] [⟨0, 0, false, .row 29 [.int .i64, .int .i64, .int .i64, .int .u64] []⟩, ⟨1, 0, false, .nst 24 [.c (.int .i64), .s 29 [.int .i64, .int .i64, .int .i64, .int .u64]] []⟩, ⟨2, 0, false, .row 41 [.int .i64, .int .i64, .int .i64] []⟩] xmw
theorem xCK : xbc Tryz.prog K48 := xav xaB xCL (n := 9) rfl rfl fun us x h => by
 unfold xmw at h
 split at h
 ·cases h; exact ⟨some (xeV _ _ _ _ _ _), xsk _ _ _ _ _ _, fun h => h⟩
 ·cases h
theorem xsj (x_Gap_Ship x_Gap_Item : Int) (x_Sent x_On : Bool) (o_Kind o_Ship o_Item : Int) : xas Tryz.prog 0 (xa1 Tryz.prog K48 xcQ 9 62 [.agg [.int .i64 x_Gap_Ship, .int .i64 x_Gap_Item, .bool x_Sent, .bool x_On], .agg [.int .i64 o_Kind, .int .i64 o_Ship, .int .i64 o_Item]] ⟨[], 0⟩) = some ⟨none, [], 0, [], .bool (xgi x_Gap_Ship x_Gap_Item x_Sent x_On o_Kind o_Ship o_Item)⟩ := by kernel_rfl
noncomputable def xmv : List U → Option Eff
 | [.i x_Gap_Ship, .i x_Gap_Item, .b x_Sent, .b x_On, .i o_Kind, .i o_Ship, .i o_Item] => some ⟨none, [], 0, [], .bool (xgi x_Gap_Ship x_Gap_Item x_Sent x_On o_Kind o_Ship o_Item)⟩
 | _ => Option.none
noncomputable def K49 : Con := ext Tryz.prog K48 62 [.agg [.int .i64 0, .int .i64 0, .bool false, .bool false], .agg [.int .i64 0, .int .i64 0, .int .i64 0]] [] xmv
theorem xCJ : xbc Tryz.prog K49 := xav xaB xCK (n := 9) rfl rfl fun us x h => by
 unfold xmv at h
 split at h
 ·cases h; exact ⟨none, xsj _ _ _ _ _ _ _, fun _ => trivial⟩
 ·cases h
theorem xoR (a_Kind a_Ship a_Item b_Kind b_Ship b_Item : Int) : xas Tryz.prog 0 (xa1 Tryz.prog K49 xcQ 9 61 [.agg [.int .i64 a_Kind, .int .i64 a_Ship, .int .i64 a_Item], .agg [.int .i64 b_Kind, .int .i64 b_Ship, .int .i64 b_Item]] ⟨[], 0⟩) = some ⟨none, [], 0, [], .bool (xc3 a_Kind a_Ship a_Item b_Kind b_Ship b_Item)⟩ := by kernel_rfl
noncomputable def xjE : List U → Option Eff
 | [.i a_Kind, .i a_Ship, .i a_Item, .i b_Kind, .i b_Ship, .i b_Item] => some ⟨none, [], 0, [], .bool (xc3 a_Kind a_Ship a_Item b_Kind b_Ship b_Item)⟩
 | _ => Option.none
noncomputable def K50 : Con := ext Tryz.prog K49 61 [.agg [.int .i64 0, .int .i64 0, .int .i64 0], .agg [.int .i64 0, .int .i64 0, .int .i64 0]] [] xjE
theorem xCI : xbc Tryz.prog K50 := xav xaB xCJ (n := 9) rfl rfl fun us x h => by
 unfold xjE at h
 split at h
 ·cases h; exact ⟨none, xoR _ _ _ _ _ _, fun _ => trivial⟩
 ·cases h
theorem xmu (list omissions : List (List Int)) : xas Tryz.prog 2 (xa1 Tryz.prog K50 xcQ 9 26 [.sl 0, .sl 1] ⟨[⟨0, 2, false, .row 105 [.int .i64, .int .i64, .bool, .bool] list⟩, ⟨1, 2, false, .row 80 [.int .i64, .int .i64, .int .i64] omissions⟩], 2⟩) = some ⟨some (xdr list omissions), [], 0, [], .bool (xdo list omissions)⟩ := by kernel_rfl
noncomputable def xhN : List U → Option Eff
 | [.r list, .r omissions] => some ⟨some (xdr list omissions), [], 0, [], .bool (xdo list omissions)⟩
 | _ => Option.none
noncomputable def K51 : Con := ext Tryz.prog K50 26 [.sl 0, .sl 1] [⟨0, 0, false, .row 105 [.int .i64, .int .i64, .bool, .bool] []⟩, ⟨1, 0, false, .row 80 [.int .i64, .int .i64, .int .i64] []⟩] xhN
theorem xCH : xbc Tryz.prog K51 := xav xaB xCI (n := 9) rfl rfl fun us x h => by
 unfold xhN at h
 split at h
 ·cases h; exact ⟨some (xdr _ _), xmu _ _, fun h => h⟩
 ·cases h
theorem xpR (a b : List (List Int)) : xas Tryz.prog 2 (xa1 Tryz.prog K51 xcQ 9 27 [.sl 0, .sl 1] ⟨[⟨0, 2, false, .row 80 [.int .i64, .int .i64, .int .i64] a⟩, ⟨1, 2, false, .row 80 [.int .i64, .int .i64, .int .i64] b⟩], 2⟩) = some ⟨some (xeF a b), [], 0, [], .bool (xgZ a b)⟩ := by kernel_rfl
noncomputable def xj9 : List U → Option Eff
 | [.r a, .r b] => some ⟨some (xeF a b), [], 0, [], .bool (xgZ a b)⟩
 | _ => Option.none
noncomputable def K52 : Con := ext Tryz.prog K51 27 [.sl 0, .sl 1] [⟨0, 0, false, .row 80 [.int .i64, .int .i64, .int .i64] []⟩, ⟨1, 0, false, .row 80 [.int .i64, .int .i64, .int .i64] []⟩] xj9
theorem xCG : xbc Tryz.prog K52 := xav xaB xCH (n := 9) rfl rfl fun us x h => by
 unfold xj9 at h
 split at h
 ·cases h; exact ⟨some (xeF _ _), xpR _ _, fun h => h⟩
 ·cases h
end Go.Proofs.YtikhnofbbcmpeaaGreat
set_option maxRecDepth 100000
set_option linter.unusedVariables false
namespace Go.Proofs.YtikhnofbbcmpeaaGreat
open Go Go.Sy
noncomputable def xcC (office_Owner time delay : Int) (office_Lines ships chances other : List (List Int)) : Bool :=
 bif !xeE office_Owner office_Lines ships chances || decide ((↑other.length : Int) > (100 : Int)) then xdu
else
 bif (xbQ office_Owner time delay office_Lines ships chances != (0 : Int)) == false then
  bif !xdo (xfl office_Owner time delay office_Lines ships chances) other then xdu
  else
   xdu && decide ((↑(xa7 office_Owner time delay office_Lines ships chances).length : Int) ≤ (↑other.length : Int)) &&
    (decide ((↑(xa7 office_Owner time delay office_Lines ships chances).length : Int) < (↑other.length : Int)) ||
     !xgZ other (xa7 office_Owner time delay office_Lines ships chances))
 else xdu
def xbz (office_Owner time delay : Int) (office_Lines ships chances other : List (List Int)) : Prop :=
 ((xed) ∧ ((xfK office_Owner office_Lines ships chances) ∧ (((!xeE office_Owner office_Lines ships chances || decide ((↑other.length : Int) > (100 : Int))) = false) → ((xbw office_Owner time delay office_Lines ships chances) ∧ ((((xbQ office_Owner time delay office_Lines ships chances != (0 : Int)) == false) = true) → ((xeV office_Owner time delay office_Lines ships chances) ∧ ((xdr (xfl office_Owner time delay office_Lines ships chances) other) ∧ (((!xdo (xfl office_Owner time delay office_Lines ships chances) other) = false) → (((xdu && decide ((↑(xa7 office_Owner time delay office_Lines ships chances).length : Int) ≤ (↑other.length : Int))) = true) → ((decide ((↑(xa7 office_Owner time delay office_Lines ships chances).length : Int) < (↑other.length : Int)) = false) → (xeF other (xa7 office_Owner time delay office_Lines ships chances))))))))))))
end Go.Proofs.YtikhnofbbcmpeaaGreat
set_option maxRecDepth 100000
set_option linter.unusedVariables false
namespace Go.Proofs.YtikhnofbbcmpeaaGreat
open Go Go.Sy
theorem xjk (office_Owner time delay : Int) (office_Lines ships chances other : List (List Int)) : xas Tryz.prog 4 (xa1 Tryz.prog K52 xcQ 9 7 [.agg [.int .i64 office_Owner, .sl 0], .sl 1, .sl 2, .int .i64 time, .int .i64 delay, .sl 3] ⟨[⟨0, 4, false, .row 29 [.int .i64, .int .i64, .int .i64, .int .u64] office_Lines⟩, ⟨1, 4, false, .nst 24 [.c (.int .i64), .s 29 [.int .i64, .int .i64, .int .i64, .int .u64]] ships⟩, ⟨2, 4, false, .row 41 [.int .i64, .int .i64, .int .i64] chances⟩, ⟨3, 4, false, .row 80 [.int .i64, .int .i64, .int .i64] other⟩], 4⟩) = some ⟨some (xbz office_Owner time delay office_Lines ships chances other), [], 0, [], .bool (xcC office_Owner time delay office_Lines ships chances other)⟩ := by kernel_rfl
noncomputable def xfP : List U → Option Eff
 | [.i office_Owner, .i time, .i delay, .r office_Lines, .r ships, .r chances, .r other] => some ⟨some (xbz office_Owner time delay office_Lines ships chances other), [], 0, [], .bool (xcC office_Owner time delay office_Lines ships chances other)⟩
 | _ => Option.none
noncomputable def K53 : Con := ext Tryz.prog K52 7 [.agg [.int .i64 0, .sl 0], .sl 1, .sl 2, .int .i64 0, .int .i64 0, .sl 3] [⟨0, 0, false, .row 29 [.int .i64, .int .i64, .int .i64, .int .u64] []⟩, ⟨1, 0, false, .nst 24 [.c (.int .i64), .s 29 [.int .i64, .int .i64, .int .i64, .int .u64]] []⟩, ⟨2, 0, false, .row 41 [.int .i64, .int .i64, .int .i64] []⟩, ⟨3, 0, false, .row 80 [.int .i64, .int .i64, .int .i64] []⟩] xfP
theorem xCF : xbc Tryz.prog K53 := xav xaB xCG (n := 9) rfl rfl fun us x h => by
 unfold xfP at h
 split at h
 ·cases h; exact ⟨some (xbz _ _ _ _ _ _ _), xjk _ _ _ _ _ _ _, fun h => h⟩
 ·cases h
end Go.Proofs.YtikhnofbbcmpeaaGreat
set_option linter.unusedVariables false
set_option maxRecDepth 100000
namespace Go.Proofs.YtikhnofbbcmpeaaGreat
open Go Go.Sy
def runL {σ : Type} (f : σ → List Int → σ ⊕ (Nat × List U)) : σ → List (List Int) → σ ⊕ (Nat × List U)
 | s, [] => .inl s
 | s, x :: r => match f s x with
  | .inl s' => runL f s' r
  | .inr o => .inr o
def goOn {σ : Type} (mk : σ → List U) : σ ⊕ (Nat × List U) → Option (Nat × List U)
 | .inl s => some (0, mk s)
 | .inr o => some (o.1 + 1, o.2)
def endL {σ : Type} (fin : σ → Nat × List U) : σ ⊕ (Nat × List U) → Nat × List U
 | .inl s => ((fin s).1 + 1, (fin s).2)
 | .inr o => (o.1 + 1, o.2)
theorem xbZ {σ : Type} {step : List U → Option (Nat × List U)} (l : List (List Int)) (mk : Nat → σ → List U) (f : σ → List Int → σ ⊕ (Nat × List U)) (I : Nat → σ → Prop) (fin : σ → Nat × List U) (k0 : Nat)
  (hs : ∀ i s (hi : i < l.length), k0 ≤ i → I i s → step (mk i s) = goOn (mk (i + 1)) (f s l[i]) ∧ ∀ s', f s l[i] = .inl s' → I (i + 1) s')
  (he : ∀ i s, i = max k0 l.length → I i s → step (mk i s) = some ((fin s).1 + 1, (fin s).2)) {s : σ} (h0 : I k0 s) :
  xax step (mk k0 s) ∧ xam step (mk k0 s) = endL fin (runL f s (l.drop k0)) := by
 have key : ∀ m i s, i + m = l.length → k0 ≤ i → I i s → xhs step (m + 1) (mk i s) = some (endL fin (runL f s (l.drop i))) := by
  intro m
  induction m with
  | zero =>
   intro i s hi hk h
   rw [List.drop_eq_nil_of_le (by omega)]
   exact xjl (he i s (by omega) h)
  | succ m ih =>
   intro i s hi hk h
   obtain ⟨h1, h2⟩ := hs i s (by omega) hk h
   rw [List.drop_eq_getElem_cons (by omega : i < l.length)]
   unfold runL
   cases hf : f s l[i] with
   | inl s' =>
    rw [hf] at h1
    exact xiI h1 (ih (i + 1) s' (by omega) (by omega) (h2 s' hf))
   | inr o =>
    rw [hf] at h1
    unfold xhs
    rw [h1]; rfl
 by_cases hk : k0 ≤ l.length
 ·exact xlX (key (l.length - k0) k0 s (by omega) (Nat.le_refl _) h0)
 ·rw [List.drop_eq_nil_of_le (by omega)]
  exact xlX (xjl (he k0 s (by omega) h0))
theorem xaX {l : List (List Int)} {i : Nat} (hi : i < l.length) : l.getD i [] = l[i] := by rw [List.getD_eq_getElem?_getD, List.getElem?_eq_getElem hi]; rfl
theorem xaM {l : List (List Int)} {i : Nat} (hi : i < l.length) : l.getD (i : Int).toNat [] = l[i] := by rw [Int.toNat_natCast]; exact xaX hi
theorem xde {i : Nat} (h : i < 9223372036854775807) : IntKind.i64.wrap ((i : Int) + 1) = ((i + 1 : Nat) : Int) := by
 rw [xe3 (by omega)]; rfl
theorem xji {step : List U → Option (Nat × List U)} {l : List (List Int)} {p : List Int → Bool} (m : Nat) (hs : ∀ i (hi : i < l.length), step [.i 0, .i i] = bif p l[i] then some (1, [.i i]) else some (0, [.i 0, .i ((i + 1 : Nat) : Int)]))
  (he : step [.i 0, .i l.length] = some (m + 2, [.i 0, .i l.length])) {init : List U} (hi : init = [.i 0, .i ((0 : Nat) : Int)]) :
  xax step init ∧ decide ((bif (xam step init).fst.beq 1 then gi (xam step init).snd 0 else (-1 : Int)) ≥ 0) = l.any p := by
 subst hi
 obtain ⟨h1, h2⟩ := xdC (step := step) l.length (fun i => p (l.getD i [])) (fun i => [.i 0, .i i]) (fun i => [.i i]) 0 (m + 1) [.i 0, .i l.length]
  (fun i hi => by rw [hs i hi, xaX hi]) he
 refine ⟨h1, ?_⟩
 rcases h2 with ⟨i, hi, hp, _, hg⟩ | ⟨hn, hg⟩
 ·rw [hg]
  have : l.any p = true := List.any_eq_true.2 ⟨l[i], List.getElem_mem hi, by rw [← xaX hi]; exact hp⟩
  rw [this]
  show decide ((bif true then gi [.i (i : Int)] 0 else (-1 : Int)) ≥ 0) = true
  rw [cond_true, gi_z]
  exact decide_eq_true (by omega)
 ·rw [hg]
  have : l.any p = false := List.any_eq_false.2 fun x hx => by
   obtain ⟨i, hi, rfl⟩ := List.getElem_of_mem hx
   have := hn i hi
   simp only [xaX hi] at this
   simp [this]
  rw [this]
  show decide ((bif Nat.beq (m + 1 + 1) 1 then gi [.i 0, .i (l.length : Int)] 0 else (-1 : Int)) ≥ 0) = false
  rfl
def mixD (h x : Int) : Int :=
 bXor IntKind.u64 (IntKind.u64.wrap (bXor IntKind.u64 h (IntKind.u64.wrap x) * 11507291218515648293)) ((IntKind.u64.wrap (bXor IntKind.u64 h (IntKind.u64.wrap x) * 11507291218515648293)).fdiv ((2 : Int) ^ min (Int.toNat (32 : Int)) IntKind.u64.bits))
def digF (l : List Int) : Int := l.foldl mixD (IntKind.u64.wrap (11400714819323198485 + IntKind.u64.wrap l.length))
theorem xdV {σ : Type} (g : σ → List Int → σ) : ∀ (l : List (List Int)) (s : σ), runL (fun s x => .inl (g s x)) s l = .inl (l.foldl g s)
 | [], s => rfl
 | x :: r, s => xdV g r (g s x)
theorem xzb (l : List (List Int)) (hl : l.length ≤ 9223372036854775807) : xea l ∧ xfi l = digF (l.map fun x => x.getD 0 0) := by
 obtain ⟨h1, h2⟩ := xbZ (step := xcY l) l (fun i (s : Int) => [.i s, .i i]) (fun s x => .inl (mixD s (x.getD 0 0))) (fun _ _ => True) (fun s => (1, [.i s, .i (l.length : Int)])) 0
  (fun i s hi _ _ => ⟨by
   unfold xcY xkO
   simp only [gi_z, gi_1, dlt hi, xaa (xat hi), xaa (show (0 : Int) ≤ 32 by decide), xde (show i < 9223372036854775807 by omega), xaM hi]
   rfl, fun _ _ => trivial⟩)
  (fun i s hi _ => by
   have : i = l.length := by omega
   subst this
   unfold xcY
   simp only [gi_z, gi_1, dnlt]) (s := IntKind.u64.wrap (11400714819323198485 + IntKind.u64.wrap l.length)) trivial
 refine ⟨h1, ?_⟩
 unfold xfi xkP
 have hi : xfa l = [.i (IntKind.u64.wrap (11400714819323198485 + IntKind.u64.wrap l.length)), .i ((0 : Nat) : Int)] := rfl
 rw [hi, h2, List.drop_zero, xdV]
 unfold digF
 rw [List.foldl_map, List.length_map]
 rfl
def sumF (owner last t k n : Int) : Int := digF [owner, IntKind.i64.wrap last, t, k, n]
theorem xvK (owner last t k n s : Int) : xbF owner last t k n s ∧ xb1 owner last t k n s = sumF owner last t k n := xzb _ (by simp)
def clsF (k : Int) : Int := if k = 1 then 1 else if k = 2 ∨ k = 3 then 2 else if k = 4 ∨ k = 5 then 3 else 0
theorem bne {a b : Int} (h : ¬ a = b) : (a == b) = false := beq_eq_false_iff_ne.2 h
theorem xpt (k : Int) : xb3 k = clsF k := by
 unfold xb3 xjN xjM clsF
 by_cases h1 : k = 1
 ·subst h1; rfl
 by_cases h2 : k = 2
 ·subst h2; rfl
 by_cases h3 : k = 3
 ·subst h3; rfl
 by_cases h4 : k = 4
 ·subst h4; rfl
 by_cases h5 : k = 5
 ·subst h5; rfl
 rw [bne h1, bne h2, bne h3, bne h4, bne h5, if_neg h1, if_neg (by simp [h2, h3]), if_neg (by simp [h4, h5])]
 rfl
def tmF (t : Int) : Bool := decide (0 ≤ t) && decide (t ≤ 10000000)
def itF (n : Int) : Bool := decide (1 ≤ n) && decide (n ≤ 10000)
def lnF (t k n : Int) : Bool := if clsF k = 0 then false else if clsF k = 3 then tmF t && n == 0 else tmF t && itF n
def ownF (owner k : Int) : Bool := (owner == 0) == (clsF k == 1)
theorem xpC (t : Int) : xau t = tmF t := rfl
theorem xyz (t : Int) : xfg t = itF t := rfl
theorem xyo (t k n : Int) : xbS t k n = lnF t k n := by
 unfold xbS lnF
 rw [xpt, xpC, xyz]
 by_cases h0 : clsF k = 0
 ·rw [h0]; rfl
 ·by_cases h3 : clsF k = 3
  ·rw [h3]; rfl
  ·rw [bne h0, bne h3, if_neg h0, if_neg h3]; rfl
theorem xAr (o k : Int) : xbo o k = ownF o k := by unfold xbo ownF; rw [xpt]
end Go.Proofs.YtikhnofbbcmpeaaGreat
set_option linter.unusedVariables false
set_option maxRecDepth 100000
namespace Go.Proofs.YtikhnofbbcmpeaaGreat
open Go Go.Sy
abbrev col (x : List Int) (j : Nat) : Int := x.getD j 0
def vldF (o : Int) : Bool → Int → Int → List (List Int) → Bool
 | _, _, _, [] => true
 | off, last, now, x :: r =>
  if (!lnF (col x 0) (col x 1) (col x 2) || !ownF o (col x 1) || decide (col x 0 < now) || col x 3 != sumF o last (col x 0) (col x 1) (col x 2)) = true then false
  else if clsF (col x 1) = 3 then (if off = (col x 1 == 4) then false else vldF o (!off) (col x 3) (col x 0) r)
  else vldF o off (col x 3) (col x 0) r
def valF (o : Int) (l : List (List Int)) : Bool := decide (0 ≤ o) && decide (o ≤ 8) && decide (l.length ≤ 200) && vldF o false 0 0 l
def xnm (o : Int) (s : Bool × Int × Int) (x : List Int) : (Bool × Int × Int) ⊕ (Nat × List U) :=
 if (!lnF (col x 0) (col x 1) (col x 2) || !ownF o (col x 1) || decide (col x 0 < s.2.2) || col x 3 != sumF o s.2.1 (col x 0) (col x 1) (col x 2)) = true then .inr (0, [])
 else if clsF (col x 1) = 3 then (if s.1 = (col x 1 == 4) then .inr (1, []) else .inl (!s.1, col x 3, col x 0))
 else .inl (s.1, col x 3, col x 0)
theorem xpB (o : Int) (n : Int) : ∀ (l : List (List Int)) (s : Bool × Int × Int),
  (bif (endL (fun s : Bool × Int × Int => (4, [.b false, .b s.1, .i s.2.1, .i s.2.2, .i n])) (runL (xnm o) s l)).1.beq 1 then false else bif (endL (fun s : Bool × Int × Int => (4, [.b false, .b s.1, .i s.2.1, .i s.2.2, .i n])) (runL (xnm o) s l)).1.beq 2 then false else true) = vldF o s.1 s.2.1 s.2.2 l
 | [], s => rfl
 | x :: r, s => by
  unfold runL vldF
  by_cases h1 : (!lnF (col x 0) (col x 1) (col x 2) || !ownF o (col x 1) || decide (col x 0 < s.2.2) || col x 3 != sumF o s.2.1 (col x 0) (col x 1) (col x 2)) = true
  ·have e : xnm o s x = .inr (0, []) := by unfold xnm; rw [if_pos h1]
   rw [e, if_pos h1]; rfl
  ·rw [if_neg h1]
   by_cases h2 : clsF (col x 1) = 3
   ·rw [if_pos h2]
    by_cases h3 : s.1 = (col x 1 == 4)
    ·have e : xnm o s x = .inr (1, []) := by unfold xnm; rw [if_neg h1, if_pos h2, if_pos h3]
     rw [e, if_pos h3]; rfl
    ·have e : xnm o s x = .inl (!s.1, col x 3, col x 0) := by unfold xnm; rw [if_neg h1, if_pos h2, if_neg h3]
     rw [e, if_neg h3]
     exact xpB o n r _
   ·have e : xnm o s x = .inl (s.1, col x 3, col x 0) := by unfold xnm; rw [if_neg h1, if_neg h2]
    rw [e, if_neg h2]
    exact xpB o n r _
theorem xwH (o : Int) (l : List (List Int)) (hl : l.length ≤ 9223372036854775807) : xax (xbP o l) (xeN o l) ∧ xgR o l = endL (fun s : Bool × Int × Int => (4, [.b false, .b s.1, .i s.2.1, .i s.2.2, .i l.length])) (runL (xnm o) (false, 0, 0) l) := by
 have h := xbZ (step := xbP o l) l (fun i (s : Bool × Int × Int) => [.b false, .b s.1, .i s.2.1, .i s.2.2, .i i]) (xnm o) (fun _ _ => True) (fun s => (4, [.b false, .b s.1, .i s.2.1, .i s.2.2, .i l.length])) 0
  (fun i s hi _ _ => ⟨by
   unfold xbP xjO
   simp only [gi_4, gi_3, gi_2, gi_1, gi_z, gb_1, gb_z, dlt hi, xaa (xat hi), xde (show i < 9223372036854775807 by omega), xaM hi, xyo, xAr, (xvK _ _ _ _ _ _).2, xpt]
   rw [xaa (fun _ => (xvK _ _ _ _ _ _).1)]
   generalize l[i] = x
   unfold xnm
   cases h1 : (!lnF (col x 0) (col x 1) (col x 2) || !ownF o (col x 1) || decide (col x 0 < s.2.2) || col x 3 != sumF o s.2.1 (col x 0) (col x 1) (col x 2)) with
   | true => rw [if_pos rfl]; rfl
   | false =>
    rw [if_neg (by decide), cond_false]
    by_cases h2 : clsF (col x 1) = 3
    ·rw [if_pos h2, h2]
     by_cases h3 : s.1 = (col x 1 == 4)
     ·rw [if_pos h3, h3]; simp only [beq_self_eq_true, cond_true]; rfl
     ·rw [if_neg h3]
      have : (s.1 == (col x 1 == 4)) = false := by simpa using h3
      rw [this]; rfl
    ·rw [if_neg h2]
     rw [bne h2]; rfl, fun _ _ => trivial⟩)
  (fun i s hi _ => by
   have : i = l.length := by omega
   subst this
   unfold xbP
   simp only [gi_4, gi_3, gi_2, gi_1, gi_z, gb_1, gb_z, dnlt]) (s := (false, 0, 0)) trivial
 rw [List.drop_zero] at h
 exact h
theorem xfD (o : Int) (l : List (List Int)) (hl : l.length ≤ 9223372036854775807) : xaE o l ∧ xae o l = valF o l := by
 obtain ⟨h1, h2⟩ := xwH o l hl
 refine ⟨fun _ => h1, ?_⟩
 unfold xae valF
 rw [h2]
 have := xpB o l.length l (false, 0, 0)
 rw [this]
 by_cases h0 : 0 ≤ o
 ·by_cases h8 : o ≤ 8
  ·by_cases h200 : l.length ≤ 200
   ·simp [h0, h8, h200, show ¬ o < 0 by omega, show ¬ o > 8 by omega, show ¬ ((l.length : Int) > 200) by omega]
   ·simp [h0, h8, h200, show ((l.length : Int) > 200) by omega]
  ·simp [h8, show o > 8 by omega]
 ·simp [h0, show o < 0 by omega]
def onF (t : Int) : Bool → List (List Int) → Bool
 | b, [] => b
 | b, x :: r => if col x 0 > t then b else onF t (if clsF (col x 1) = 3 then col x 1 == 5 else b) r
def xmA (t : Int) (s : Bool) (x : List Int) : Bool ⊕ (Nat × List U) := if col x 0 > t then .inr (2, [.b s]) else .inl (if clsF (col x 1) = 3 then col x 1 == 5 else s)
theorem xrv (t n : Int) : ∀ (l : List (List Int)) (s : Bool),
  (bif (endL (fun s : Bool => (3, [.i n, .b s])) (runL (xmA t) s l)).1.beq 3 then gb (endL (fun s : Bool => (3, [.i n, .b s])) (runL (xmA t) s l)).2 0 else gb (endL (fun s : Bool => (3, [.i n, .b s])) (runL (xmA t) s l)).2 1) = onF t s l
 | [], s => rfl
 | x :: r, s => by
  unfold runL onF
  by_cases h : col x 0 > t
  ·have e : xmA t s x = .inr (2, [.b s]) := by unfold xmA; rw [if_pos h]
   rw [e, if_pos h]; rfl
  ·have e : xmA t s x = .inl (if clsF (col x 1) = 3 then col x 1 == 5 else s) := by unfold xmA; rw [if_neg h]
   rw [e, if_neg h]
   exact xrv t n r _
theorem xx5 (o t : Int) (l : List (List Int)) (hl : l.length ≤ 9223372036854775807) : xcy o t l ∧ xaH o t l = onF t true l := by
 obtain ⟨h1, h2⟩ := xbZ (step := xdv o t l) l (fun i (s : Bool) => [.i i, .b s]) (xmA t) (fun _ _ => True) (fun s => (3, [.i l.length, .b s])) 0
  (fun i s hi _ _ => ⟨by
   unfold xdv xmA
   simp only [gi_z, gb_1, gb_z, dlt hi, xaa (xat hi), xde (show i < 9223372036854775807 by omega), xaM hi, xpt]
   generalize l[i] = x
   by_cases h1 : col x 0 > t
   ·rw [if_pos h1, decide_eq_true h1]; rfl
   ·rw [if_neg h1, decide_eq_false h1]
    by_cases h2 : clsF (col x 1) = 3
    ·rw [if_pos h2, h2]; rfl
    ·rw [if_neg h2, bne h2]; rfl, fun _ _ => trivial⟩)
  (fun i s hi _ => by
   have : i = l.length := by omega
   subst this
   unfold xdv
   simp only [gi_z, gb_1, gb_z, dnlt]) (s := true) trivial
 rw [List.drop_zero] at h2
 refine ⟨h1, ?_⟩
 unfold xaH xg5
 have hi : xfQ o t l = [.i ((0 : Nat) : Int), .b true] := rfl
 rw [hi, h2]
 exact xrv t l.length l true
def xnH (j : Nat) (d : Int) (l : List (List Int)) : Int := match l.getLast? with | some x => col x j | none => d
theorem xu3 (o : Int) (l : List (List Int)) (hl : l.length ≤ 9223372036854775807) : xbK o l ∧ xa4 o l = xnH 0 (-1) l ∧ xa3 o l = xnH 3 0 l := by
 unfold xbK xa4 xku xa3 xkt xnH
 by_cases h : l.length = 0
 ·have : l = [] := List.eq_nil_of_length_eq_zero h
  subst this
  refine ⟨fun h => ?_, rfl, rfl⟩
  simp at h
 ·have hw : IntKind.i64.wrap ((l.length : Int) - 1) = ((l.length - 1 : Nat) : Int) := by rw [xe3 (by omega)]; omega
  have hr : inR (IntKind.i64.wrap ((l.length : Int) - 1)) l := by rw [hw]; exact xat (by omega)
  have hd : decide ((l.length : Int) > 0) = true := decide_eq_true (by omega)
  have hg : l.getLast? = some l[l.length - 1] := by rw [List.getLast?_eq_getElem?, List.getElem?_eq_getElem (by omega)]
  refine ⟨fun _ => ⟨hr, hr, hr, hr, hr, hr⟩, ?_, ?_⟩
  ·rw [hd, cond_true, hw, xaM (by omega), hg]
  ·rw [hd, cond_true, hw, xaM (by omega), hg]
def xuG (n t : Int) (l : List (List Int)) : Bool := l.any fun x => col x 2 == n && (decide (t < 0) || col x 0 == t)
theorem xsa (o n t : Int) (l : List (List Int)) (hl : l.length ≤ 9223372036854775807) : xcd o n t l ∧ xaL o n t l = xuG n t l :=
 xji (step := xcW o n t l) (p := fun x => col x 2 == n && (decide (t < 0) || col x 0 == t)) 1
  (fun i hi => by
   unfold xcW
   simp only [gi_z, gi_1, dlt hi, xaa (xat hi), xde (show i < 9223372036854775807 by omega), xaM hi])
  (by unfold xcW; simp only [gi_z, gi_1, dnlt]) rfl
def badC (x : List Int) : Bool := !tmF (col x 2) || !itF (col x 1) || decide (col x 0 < 1) || decide (col x 0 > 8)
def chF (l : List (List Int)) : Bool := decide (l.length ≤ 200) && !l.any badC
theorem xi6 (l : List (List Int)) (hl : l.length ≤ 9223372036854775807) : xbv l ∧ xay l = chF l := by
 obtain ⟨h1, h2⟩ := xji (step := xb4 l) (l := l) (p := badC) 1
  (fun i hi => by
   unfold xb4
   simp only [gi_z, gi_1, dlt hi, xaa (xat hi), xde (show i < 9223372036854775807 by omega), xaM hi, xpC, xyz]
   rfl)
  (by unfold xb4; simp only [gi_z, gi_1, dnlt]) (init := xdZ l) rfl
 refine ⟨fun _ => h1, ?_⟩
 unfold xay chF xfR
 rw [h2]
 congr 1
 exact decide_eq_decide.2 (by omega)
def hasN (n : Int) (l : List (List Int)) : Bool := l.any fun x => n == col x 0
theorem xvl (n : Int) (l : List (List Int)) (hl : l.length ≤ 9223372036854775807) : xa8 n l ∧ xbE n l = hasN n l :=
 xji (step := xa9 n l) (p := fun x => n == col x 0) 1
  (fun i hi => by
   unfold xa9
   simp only [gi_z, gi_1, dlt hi, xaa (xat hi), xde (show i < 9223372036854775807 by omega), xaM hi])
  (by unfold xa9; simp only [gi_z, gi_1, dnlt]) rfl
end Go.Proofs.YtikhnofbbcmpeaaGreat
set_option linter.unusedVariables false
set_option maxRecDepth 100000
namespace Go.Proofs.YtikhnofbbcmpeaaGreat
open Go Go.Sy
theorem xtr {α : Type} {lt : α → α → Prop} (irr : ∀ a, ¬ lt a a) (asym : ∀ a b, lt a b → ¬ lt b a) : ∀ {l l' : List α}, l.Pairwise lt → l'.Pairwise lt → (∀ x, x ∈ l ↔ x ∈ l') → l = l'
 | [], [], _, _, _ => rfl
 | [], y :: r, _, _, h => by have := (h y).2 List.mem_cons_self; cases this
 | x :: r, [], _, _, h => by have := (h x).1 List.mem_cons_self; cases this
 | x :: r, y :: r', h1, h2, h => by
  obtain ⟨a1, a2⟩ := List.pairwise_cons.1 h1
  obtain ⟨b1, b2⟩ := List.pairwise_cons.1 h2
  have e : x = y := by
   rcases List.mem_cons.1 ((h x).1 List.mem_cons_self) with e | hx
   ·exact e
   ·rcases List.mem_cons.1 ((h y).2 List.mem_cons_self) with e | hy
    ·exact e.symm
    ·exact absurd (b1 x hx) (asym _ _ (a1 y hy))
  subst e
  rw [xtr irr asym a2 b2 fun z => ⟨fun hz => ?_, fun hz => ?_⟩]
  ·rcases List.mem_cons.1 ((h z).1 (List.mem_cons_of_mem _ hz)) with e | h'
   ·exact absurd (a1 z hz) (e ▸ irr z)
   ·exact h'
  ·rcases List.mem_cons.1 ((h z).2 (List.mem_cons_of_mem _ hz)) with e | h'
   ·exact absurd (b1 z hz) (e ▸ irr z)
   ·exact h'
theorem xzc : ∀ (l : List Int) (p : Option Int), l.Pairwise (· ≤ ·) → (∀ y, p = some y → ∀ x ∈ l, y ≤ x) → (dd p l).Pairwise (· < ·) ∧ (∀ y, p = some y → ∀ x ∈ dd p l, y < x) ∧ ∀ x, x ∈ dd p l ↔ x ∈ l ∧ p ≠ some x
 | [], p, _, _ => ⟨List.Pairwise.nil, (fun y _ x hx => by cases hx), fun x => ⟨(fun h => by cases h), fun h => by cases h.1⟩⟩
 | x :: r, p, h, hp => by
  obtain ⟨a1, a2⟩ := List.pairwise_cons.1 h
  obtain ⟨b1, b2, b3⟩ := xzc r (some x) a2 (fun y hy z hz => by cases hy; exact a1 z hz)
  unfold dd
  by_cases e : p = some x
  ·rw [if_pos e]
   refine ⟨b1, fun y hy z hz => ?_, fun z => ?_⟩
   ·rw [e] at hy; cases hy
    exact b2 x rfl z hz
   ·rw [b3, e]
    refine ⟨fun h => ⟨List.mem_cons_of_mem _ h.1, h.2⟩, fun h => ⟨?_, h.2⟩⟩
    rcases List.mem_cons.1 h.1 with e' | h'
    ·exact absurd (by rw [e']) h.2
    ·exact h'
  ·rw [if_neg e]
   refine ⟨List.pairwise_cons.2 ⟨fun z hz => b2 x rfl z hz, b1⟩, fun y hy z hz => ?_, fun z => ?_⟩
   ·have hyx : y < x := by
     have h1 := hp y hy x List.mem_cons_self
     have h2 : y ≠ x := fun e' => e (by rw [hy, e'])
     omega
    rcases List.mem_cons.1 hz with e' | hz
    ·omega
    ·have := b2 x rfl z hz
     omega
   ·constructor
    ·intro hz
     rcases List.mem_cons.1 hz with e' | hz
     ·subst e'; exact ⟨List.mem_cons_self, e⟩
     ·refine ⟨List.mem_cons_of_mem _ ((b3 z).1 hz).1, fun e' => ?_⟩
      have h1 := hp z e' x List.mem_cons_self
      have h2 := b2 x rfl z hz
      omega
    ·rintro ⟨h1, h2⟩
     by_cases e' : z = x
     ·rw [e']; exact List.mem_cons_self
     ·refine List.mem_cons_of_mem _ ((b3 z).2 ⟨?_, fun h => e' (by cases h; rfl)⟩)
      rcases List.mem_cons.1 h1 with h | h
      ·exact absurd h e'
      ·exact h
def xp1 (l : List Int) : List Int := dd none (xfB leI l)
theorem xx3 (l : List Int) (x : Int) : x ∈ xp1 l ↔ x ∈ l := by
 have := (xzc _ none ((xgI xqb xqa l).imp fun h => by simpa [leI] using h) (fun y hy => by cases hy)).2.2 x
 unfold xp1
 rw [this, xmM]
 simp
theorem xtB (l : List Int) : (xp1 l).length ≤ l.length := by
 unfold xp1
 refine Nat.le_trans (xm7 _ _) ?_
 rw [xeK]; exact Nat.le_refl _
theorem xx2 (s : List (List Int)) : List.take (xeR (xbm s)).toNat (xdx (xbm s)) = xaF (xp1 (nums s)) ∧ 0 ≤ xeR (xbm s) ∧ xeR (xbm s) ≤ ((xdx (xbm s)).length : Int) := by
 have e1 : nums (xbm s) = xfB leI (nums s) := by unfold xbm; rw [xhp]
 have hle := xm7 (xfB leI (nums s)) none
 unfold xeR xdx
 rw [e1]
 refine ⟨?_, by omega, ?_⟩
 ·unfold xaF xp1
  rw [Int.toNat_natCast, List.map_append, List.take_left' (by simp)]
 ·simp [xaF]
  omega
theorem xgJ {α β : Type} (p : α → Bool) (g : α → β) : ∀ (l : List α) (s : List β), l.foldl (fun s x => if p x = true then s ++ [g x] else s) s = s ++ (l.filter p).map g
 | [], s => by simp
 | x :: r, s => by
  rw [List.foldl_cons, xgJ p g r]
  by_cases h : p x = true
  ·rw [if_pos h, List.filter_cons_of_pos h]; simp
  ·rw [if_neg h, List.filter_cons_of_neg h]
theorem xrB {α : Type} (c : Prop) [Decidable c] (s : List α) (a : α) : (if c then s ++ [a] else s).length ≤ s.length + 1 := by
 split
 ·simp
 ·omega
def xj6 (t : Int) : List (List Int) → List Int
 | [] => []
 | x :: r => if col x 0 > t then [] else if col x 1 = 3 then col x 2 :: xj6 t r else xj6 t r
theorem xj5 (t : Int) : ∀ l, (xj6 t l).length ≤ l.length
 | [] => Nat.le_refl _
 | x :: r => by
  have := xj5 t r
  unfold xj6
  split
  ·exact Nat.zero_le _
  ·split <;> simp <;> omega
def xoi (t : Int) (s : List (List Int)) (x : List Int) : List (List Int) ⊕ (Nat × List U) := if col x 0 > t then .inr (2, [.r s]) else .inl (if col x 1 = 3 then s ++ [[col x 2]] else s)
theorem xrm (t n : Int) : ∀ (l : List (List Int)) (s : List (List Int)),
  (∃ b, endL (fun s : List (List Int) => (3, [.i n, .r s])) (runL (xoi t) s l) = if b = true then (3, [.r (s ++ xaF (xj6 t l))]) else (4, [.i n, .r (s ++ xaF (xj6 t l))]))
 | [], s => ⟨false, by simp [runL, endL, xj6, xaF]⟩
 | x :: r, s => by
  unfold runL xj6
  by_cases h : col x 0 > t
  ·have e : xoi t s x = .inr (2, [.r s]) := by unfold xoi; rw [if_pos h]
   exact ⟨true, by rw [e, if_pos h]; simp [endL, xaF]⟩
  ·have e : xoi t s x = .inl (if col x 1 = 3 then s ++ [[col x 2]] else s) := by unfold xoi; rw [if_neg h]
   rw [e, if_neg h]
   obtain ⟨b, hb⟩ := xrm t n r (if col x 1 = 3 then s ++ [[col x 2]] else s)
   refine ⟨b, ?_⟩
   simp only [hb]
   by_cases h3 : col x 1 = 3
   ·simp only [if_pos h3, xaF, List.map_cons, List.append_assoc, List.cons_append, List.nil_append]
   ·simp only [if_neg h3]
theorem xvL (o t : Int) (l : List (List Int)) (hl : l.length ≤ 1000000) : xbO o t l ∧ xcE o t l = xaF (xp1 (xj6 t l)) := by
 obtain ⟨h1, h2⟩ := xbZ (step := xcD o t l) l (fun i (s : List (List Int)) => [.i i, .r s]) (xoi t) (fun i s => s.length ≤ i) (fun s => (3, [.i l.length, .r s])) 0
  (fun i s hi _ hI => by
   have hfit : xbl 8 (s.length + [[col l[i] 2]].length) := by unfold xbl maxLen; simp only [List.length_cons, List.length_nil]; omega
   refine ⟨?_, fun s' hs' => ?_⟩
   ·unfold xcD xoi
    simp only [gi_z, gr_1, gr_z, dlt hi, xaa (xat hi), xde (show i < 9223372036854775807 by omega), xaM hi]
    rw [xaa hfit]
    generalize l[i] = x
    by_cases h1 : col x 0 > t
    ·rw [if_pos h1, decide_eq_true h1]; rfl
    ·rw [if_neg h1, decide_eq_false h1]
     by_cases h2 : x.getD 1 0 = 3
     ·rw [if_pos h2, h2]; rfl
     ·rw [if_neg h2, bne h2]; rfl
   ·unfold xoi at hs'
    split at hs'
    ·cases hs'
    ·cases hs'
     exact Nat.le_trans (xrB _ _ _) (by omega))
  (fun i s hi _ => by
   have : i = l.length := by omega
   subst this
   unfold xcD
   simp only [gi_z, gr_1, gr_z, dnlt]) (s := []) (Nat.zero_le _)
 rw [List.drop_zero] at h2
 obtain ⟨b, hb⟩ := xrm t l.length l []
 have hg : xaG o t l = if b = true then (3, [.r (xaF (xj6 t l))]) else (4, [.i l.length, .r (xaF (xj6 t l))]) := by
  unfold xaG
  have hi : xeL o t l = [.i ((0 : Nat) : Int), .r []] := rfl
  rw [hi, h2, hb, List.nil_append]
 have hlen : (xaF (xj6 t l)).length < 4611686018427387904 := by
  have := xj5 t l
  simp [xaF]; omega
 obtain ⟨o1, o2, o3⟩ := xx2 (xaF (xj6 t l))
 rw [xhp] at o1
 unfold xbO xcE xjH
 rw [hg]
 cases b with
 | true =>
  rw [if_pos rfl]
  exact ⟨⟨h1, fun _ => ⟨hlen, o2, o3⟩, fun h => by cases h⟩, o1⟩
 | false =>
  rw [if_neg (by decide)]
  exact ⟨⟨h1, (fun h => by cases h), fun _ => ⟨hlen, o2, o3⟩⟩, o1⟩
def xpJ (t : Int) (l : List (List Int)) : List Int := xp1 (xj6 t l)
theorem xAd (o t : Int) (l : List (List Int)) (hl : l.length ≤ 9223372036854775807) : xcv o t l ∧ xcF o t l = (if (valF o l && tmF t) = true then xaF (xpJ t l) else []) ∧ xdg o t l = if (valF o l && tmF t) = true then 0 else 1 := by
 obtain ⟨v1, v2⟩ := xfD o l hl
 unfold xcv xcF xdg
 rw [v2, xpC]
 cases hv : valF o l with
 | false => exact ⟨⟨v1, fun h => by cases h⟩, rfl, rfl⟩
 | true =>
  have h200 : l.length ≤ 200 := by
   unfold valF at hv
   simp only [Bool.and_eq_true, decide_eq_true_eq] at hv
   exact hv.1.2
  obtain ⟨s1, s2⟩ := xvL o t l (by omega)
  cases ht : tmF t with
  | false => exact ⟨⟨v1, fun h => by cases h⟩, rfl, rfl⟩
  | true => exact ⟨⟨v1, fun _ => s1⟩, s2, rfl⟩
theorem xxz {o : Int} {l : List (List Int)} (h : valF o l = true) : l.length ≤ 200 ∧ 0 ≤ o ∧ o ≤ 8 := by
 unfold valF at h
 simp only [Bool.and_eq_true, decide_eq_true_eq] at h
 exact ⟨h.1.2, h.1.1.1, h.1.1.2⟩
def coP (so t : Int) (office ship : List (List Int)) (c : List Int) : Bool := col c 0 == so && decide (col c 2 ≤ t) && xuG (col c 1) (col c 2) office && onF (col c 2) true ship
def xuh (so t : Int) (office ship list : List (List Int)) : List Int := (list.filter (coP so t office ship)).map fun c => col c 1
def coOk (oo so t : Int) (office ship list : List (List Int)) : Bool := valF oo office && valF so ship && chF list && tmF t && oo == 0 && so != 0
theorem xwE (oo so t : Int) (office ship list : List (List Int)) (h1 : office.length ≤ 9223372036854775807) (h2 : ship.length ≤ 9223372036854775807) (h3 : list.length ≤ 9223372036854775807) :
  xbA oo so t office ship list ∧ xcI oo so t office ship list = (if coOk oo so t office ship list = true then xaF (xp1 (xuh so t office ship list)) else []) ∧ xcH oo so t office ship list = if coOk oo so t office ship list = true then 0 else 1 := by
 obtain ⟨a1, a2⟩ := xfD oo office h1
 obtain ⟨b1, b2⟩ := xfD so ship h2
 obtain ⟨c1, c2⟩ := xi6 list h3
 unfold xbA xcI xjQ xcH
 rw [a2, b2, c2, xpC]
 have e : (!valF oo office || !valF so ship || !chF list || !tmF t || oo != 0 || so == 0) = !coOk oo so t office ship list := by
  unfold coOk
  show (!valF oo office || !valF so ship || !chF list || !tmF t || !(oo == 0) || so == 0) = !(valF oo office && valF so ship && chF list && tmF t && oo == 0 && !(so == 0))
  cases valF oo office <;> cases valF so ship <;> cases chF list <;> cases tmF t <;> cases (oo == 0) <;> cases (so == 0) <;> rfl
 rw [e]
 cases hok : coOk oo so t office ship list with
 | false => exact ⟨⟨a1, fun _ => b1, fun _ => c1, fun h => by cases h⟩, rfl, rfl⟩
 | true =>
  have hlist : list.length ≤ 200 := by
   unfold coOk chF at hok
   simp only [Bool.and_eq_true, decide_eq_true_eq] at hok
   exact hok.1.1.1.2.1
  obtain ⟨g1, g2⟩ := xbZ (step := xcG oo so t office ship list) list (fun i (s : List (List Int)) => [.i i, .r s]) (fun s x => .inl (if coP so t office ship x = true then s ++ [[col x 1]] else s)) (fun i s => s.length ≤ i) (fun s => (2, [.i list.length, .r s])) 0
   (fun i s hi _ hI => by
    have hfit : xbl 8 (s.length + [[col list[i] 1]].length) := by unfold xbl maxLen; simp only [List.length_cons, List.length_nil]; omega
    refine ⟨?_, fun s' hs' => ?_⟩
    ·unfold xcG
     simp only [gi_z, gr_1, gr_z, dlt hi, xaa (xat hi), xde (show i < 9223372036854775807 by omega), xaM hi, (xsa _ _ _ office h1).2, (xx5 _ _ ship h2).2]
     rw [xaa (fun _ => (xsa _ _ _ office h1).1), xaa (fun _ => (xx5 _ _ ship h2).1), xaa hfit]
     generalize list[i] = x
     show (bif coP so t office ship x then _ else _) = _
     cases coP so t office ship x
     ·rw [if_neg (by decide)]; rfl
     ·rw [if_pos rfl]; rfl
    ·cases hs'
     exact Nat.le_trans (xrB _ _ _) (by omega))
   (fun i s hi _ => by
    have : i = list.length := by omega
    subst this
    unfold xcG
    simp only [gi_z, gr_1, gr_z, dnlt]) (s := []) (Nat.zero_le _)
  rw [List.drop_zero, xdV, xgJ, List.nil_append] at g2
  have hg : xcf oo so t office ship list = (3, [.i list.length, .r (xaF (xuh so t office ship list))]) := by
   unfold xcf
   have hi : xeO oo so t office ship list = [.i ((0 : Nat) : Int), .r []] := rfl
   rw [hi, g2]
   unfold xuh xaF
   rw [List.map_map]
   rfl
  have hlen : (xaF (xuh so t office ship list)).length < 4611686018427387904 := by
   have := List.length_filter_le (coP so t office ship) list
   simp [xaF, xuh]; omega
  obtain ⟨o1, o2, o3⟩ := xx2 (xaF (xuh so t office ship list))
  rw [xhp] at o1
  rw [hg]
  exact ⟨⟨a1, fun _ => b1, fun _ => c1, fun _ => ⟨g1, hlen, o2, o3⟩⟩, o1, rfl⟩
end Go.Proofs.YtikhnofbbcmpeaaGreat
set_option linter.unusedVariables false
set_option maxRecDepth 100000
namespace Go.Proofs.YtikhnofbbcmpeaaGreat
open Go Go.Sy
def xDs (m k : Nat) : Bool := (bAnd IntKind.i64 ((m : Int).fdiv ((2 : Int) ^ min k IntKind.i64.bits)) 1 == 1) == m.testBit k
theorem xBE : (List.range 512).all (fun m => (List.range 9).all fun k => xDs m k) = true := by decide +kernel
theorem xAM {m k : Nat} (hm : m < 512) (hk : k < 9) : (bAnd IntKind.i64 ((m : Int).fdiv ((2 : Int) ^ min k IntKind.i64.bits)) 1 == 1) = m.testBit k := by
 have := List.all_eq_true.1 (List.all_eq_true.1 xBE m (List.mem_range.2 hm)) k (List.mem_range.2 hk)
 exact eq_of_beq this
def orOk (m k : Nat) : Bool := bOr IntKind.i64 (m : Int) (bShl IntKind.i64 1 (k : Int)) == ((m ||| 2 ^ k : Nat) : Int)
theorem xBU : (List.range 512).all (fun m => (List.range 9).all fun k => orOk m k) = true := by decide +kernel
theorem xBS {m k : Nat} (hm : m < 512) (hk : k < 9) : bOr IntKind.i64 (m : Int) (bShl IntKind.i64 1 (k : Int)) = ((m ||| 2 ^ k : Nat) : Int) := by
 have := List.all_eq_true.1 (List.all_eq_true.1 xBU m (List.mem_range.2 hm)) k (List.mem_range.2 hk)
 exact eq_of_beq this
def subB (m a : Nat) : Bool := (List.range 9).all fun k => !m.testBit k || a.testBit k
theorem xmD {m : Nat} (hm : m < 512) (i : Nat) : (BitVec.ofInt 64 (m : Int)).getLsbD i = (decide (i < 64) && m.testBit i) := by
 have : BitVec.ofInt 64 (m : Int) = BitVec.ofNat 64 m := by
  apply BitVec.eq_of_toNat_eq
  simp
 rw [this, BitVec.getLsbD_ofNat]
theorem xrk {m : Nat} (hm : m < 512) {i : Nat} (hi : 9 ≤ i) : m.testBit i = false := by
 refine Nat.testBit_lt_two_pow (Nat.lt_of_lt_of_le hm ?_)
 exact Nat.pow_le_pow_right (n := 2) (by omega) hi
theorem xxx {n : Nat} (h : n < 18446744073709551616) : IntKind.i64.wrap (n : Int) = 0 ↔ n = 0 := by
 constructor
 ·intro hw
  simp only [IntKind.wrap, IntKind.bits, IntKind.signed] at hw
  simp at hw
  split at hw <;> omega
 ·rintro rfl; decide
theorem xB1 {m a : Nat} (hm : m < 512) (ha : a < 512) : (bNot IntKind.i64 (m : Int) (a : Int) != 0) = !subB m a := by
 have key : (BitVec.ofInt 64 (m : Int) &&& ~~~(BitVec.ofInt 64 (a : Int))) = 0#64 ↔ subB m a = true := by
  constructor
  ·intro h
   refine List.all_eq_true.2 fun k hk => ?_
   have hk := List.mem_range.1 hk
   have h1 := congrArg (fun v => v.getLsbD k) h
   simp only [BitVec.getLsbD_and, BitVec.getLsbD_not, xmD hm, xmD ha, BitVec.getLsbD_zero] at h1
   have h64 : k < 64 := by omega
   simp only [h64, decide_true, Bool.true_and] at h1
   cases h2 : m.testBit k <;> cases h3 : a.testBit k <;> simp_all
  ·intro h
   apply BitVec.eq_of_getLsbD_eq
   intro i hi
   simp only [BitVec.getLsbD_and, BitVec.getLsbD_not, xmD hm, xmD ha, BitVec.getLsbD_zero]
   by_cases h9 : i < 9
   ·have := List.all_eq_true.1 h i (List.mem_range.2 h9)
    cases h2 : m.testBit i <;> cases h3 : a.testBit i <;> simp_all
   ·rw [xrk hm (by omega)]; simp
 have hlt : (BitVec.ofInt 64 (m : Int) &&& ~~~(BitVec.ofInt 64 (a : Int))).toNat < 18446744073709551616 := BitVec.isLt _
 have e : bNot IntKind.i64 (m : Int) (a : Int) = IntKind.i64.wrap ((BitVec.ofInt 64 (m : Int) &&& ~~~(BitVec.ofInt 64 (a : Int))).toNat : Int) := rfl
 cases hs : subB m a with
 | true =>
  have := key.2 hs
  rw [e, this]; decide
 | false =>
  have hne : ¬ (BitVec.ofInt 64 (m : Int) &&& ~~~(BitVec.ofInt 64 (a : Int))) = 0#64 := fun h => by rw [key.1 h] at hs; cases hs
  have h0 : ¬ (BitVec.ofInt 64 (m : Int) &&& ~~~(BitVec.ofInt 64 (a : Int))).toNat = 0 := fun h => hne (BitVec.eq_of_toNat_eq h)
  have : ¬ bNot IntKind.i64 (m : Int) (a : Int) = 0 := fun h => h0 ((xxx hlt).1 (e ▸ h))
  simp [this]
def ddF (p : List Int) : List (List Int) → List (List Int)
 | [] => []
 | x :: r => if x = p then ddF p r else x :: ddF x r
def ddR : List (List Int) → List (List Int)
 | [] => []
 | x :: r => x :: ddF x r
theorem xsW (x : List Int) : ∀ (l : List (List Int)) (p : List Int), ddF p (l ++ [x]) = if (l.getLast?.getD p) = x then ddF p l else ddF p l ++ [x]
 | [], p => by
  show (if x = p then ddF p [] else x :: ddF x []) = if p = x then ddF p [] else ddF p [] ++ [x]
  by_cases h : x = p
  ·rw [if_pos h, if_pos h.symm]
  ·rw [if_neg h, if_neg (fun e => h e.symm)]; rfl
 | y :: r, p => by
  have e : (y :: r).getLast?.getD p = r.getLast?.getD y := by
   cases r with
   | nil => rfl
   | cons a b => rw [List.getLast?_cons_cons]; cases h : (a :: b).getLast? with
    | none => simp at h
    | some z => rfl
  rw [List.cons_append, e]
  unfold ddF
  by_cases h : y = p
  ·subst h
   rw [if_pos rfl, if_pos rfl]
   exact xsW x r y
  ·rw [if_neg h, if_neg h, xsW x r y]
   split <;> rfl
theorem xps {l : List (List Int)} {j : Nat} (h0 : 0 < j) (hj : j < l.length) : ddR (l.take (j + 1)) = if l[j] = l[j - 1] then ddR (l.take j) else ddR (l.take j) ++ [l[j]] := by
 cases l with
 | nil => simp at hj
 | cons x r =>
  obtain ⟨i, rfl⟩ : ∃ i, j = i + 1 := ⟨j - 1, by omega⟩
  have hi : i < r.length := by simpa using hj
  simp only [List.take_succ_cons, ddR]
  rw [List.take_succ_eq_append_getElem hi, xsW]
  have e1 : (x :: r)[i + 1] = r[i] := rfl
  have e2 : ((r.take i).getLast?.getD x) = (x :: r)[i + 1 - 1] := by
   cases i with
   | zero => rfl
   | succ i =>
    have hi' : i < r.length := by omega
    rw [List.take_succ_eq_append_getElem hi', List.getLast?_concat]
    rfl
  rw [e1, e2]
  by_cases h : r[i] = (x :: r)[i + 1 - 1]
  ·rw [if_pos h, if_pos h.symm]
  ·rw [if_neg h, if_neg (fun e => h e.symm)]; rfl
theorem xze {l : List (List Int)} (h : 0 < l.length) : ddR (l.take 1) = [l[0]] := by
 cases l with
 | nil => simp at h
 | cons x r => rfl
theorem xeQ (l : List (List Int)) : ∀ j, 0 < j → j ≤ l.length → (ddR (l.take j)).length ≤ j ∧ 0 < (ddR (l.take j)).length
 | 0, h, _ => by omega
 | 1, _, h => by rw [xze (by omega)]; simp
 | j + 2, _, h => by
  obtain ⟨ih1, ih2⟩ := xeQ l (j + 1) (by omega) (by omega)
  rw [xps (by omega) (by omega)]
  split
  ·omega
  ·simp; omega
theorem xsU {l : List (List Int)} : ∀ j, 0 < j → j ≤ l.length → (∀ i (hi : i < l.length), 0 < i → i < j → l[i] ≠ l[i - 1]) → ddR (l.take j) = l.take j
 | 0, h, _, _ => by omega
 | 1, _, h, _ => by rw [xze (by omega), List.take_succ_eq_append_getElem (by omega)]; simp
 | j + 2, _, h, hne => by
  rw [xps (by omega) (by omega), if_neg (hne (j + 1) (by omega) (by omega) (by omega)), xsU (j + 1) (by omega) (by omega) (fun i hi h0 h1 => hne i hi h0 (by omega)), ← List.take_succ_eq_append_getElem]
theorem xsV : ∀ (l : List (List Int)) (p : List Int), l.Pairwise (fun a b => leL [0, 1, 2] a b = true) → (∀ x ∈ l, leL [0, 1, 2] p x = true) → (∀ x ∈ p :: l, ∀ y ∈ p :: l, leL [0, 1, 2] x y = true → leL [0, 1, 2] y x = true → x = y) →
  (ddF p l).Pairwise (fun a b => leL [0, 1, 2] b a = false) ∧ (∀ x ∈ ddF p l, leL [0, 1, 2] x p = false) ∧ ∀ x, x ∈ p :: ddF p l ↔ x ∈ p :: l
 | [], p, _, _, _ => ⟨List.Pairwise.nil, (fun x hx => by cases hx), fun x => Iff.rfl⟩
 | x :: r, p, h, hp, ha => by
  obtain ⟨a1, a2⟩ := List.pairwise_cons.1 h
  by_cases e : x = p
  ·subst e
   have hd : ddF x (x :: r) = ddF x r := by show (if x = x then ddF x r else _) = _; rw [if_pos rfl]
   obtain ⟨b1, b2, b3⟩ := xsV r x a2 a1 (fun y hy z hz => ha y (List.mem_cons_of_mem _ hy) z (List.mem_cons_of_mem _ hz))
   rw [hd]
   refine ⟨b1, b2, fun z => ?_⟩
   rw [b3 z]
   simp
  ·have hd : ddF p (x :: r) = x :: ddF x r := by show (if x = p then ddF p r else _) = _; rw [if_neg e]
   obtain ⟨b1, b2, b3⟩ := xsV r x a2 a1 (fun y hy z hz => ha y (List.mem_cons_of_mem _ hy) z (List.mem_cons_of_mem _ hz))
   have hxp : leL [0, 1, 2] x p = false := by
    cases hx : leL [0, 1, 2] x p with
    | false => rfl
    | true => exact absurd (ha x (by simp) p (by simp) hx (hp x (by simp))) e
   rw [hd]
   refine ⟨List.pairwise_cons.2 ⟨fun z hz => b2 z hz, b1⟩, fun z hz => ?_, fun z => ?_⟩
   ·rcases List.mem_cons.1 hz with rfl | hz
    ·exact hxp
    ·cases hzp : leL [0, 1, 2] z p with
     | false => rfl
     | true =>
      have := xeI _ _ _ _ hzp (hp x (by simp))
      rw [b2 z hz] at this
      cases this
   ·rw [List.mem_cons, b3 z, ← List.mem_cons]
theorem xz4 {l : List (List Int)} (h : l.Pairwise (fun a b => leL [0, 1, 2] a b = true)) (ha : ∀ x ∈ l, ∀ y ∈ l, leL [0, 1, 2] x y = true → leL [0, 1, 2] y x = true → x = y) : (ddR l).Pairwise (fun a b => leL [0, 1, 2] b a = false) ∧ ∀ x, x ∈ ddR l ↔ x ∈ l := by
 cases l with
 | nil => exact ⟨List.Pairwise.nil, fun x => Iff.rfl⟩
 | cons x r =>
  obtain ⟨a1, a2⟩ := List.pairwise_cons.1 h
  obtain ⟨b1, b2, b3⟩ := xsV r x a2 a1 ha
  exact ⟨List.pairwise_cons.2 ⟨b2, b1⟩, b3⟩
end Go.Proofs.YtikhnofbbcmpeaaGreat
set_option linter.unusedVariables false
set_option maxRecDepth 100000
namespace Go.Proofs.YtikhnofbbcmpeaaGreat
open Go Go.Sy
def rOn (k : Nat) : List Int := [2, (k : Int), 0]
def lft (g : List Int) : List Int := if col g 2 = 0 then [3, col g 0, col g 1] else [1, 0, col g 1]
def cov (m : Nat) (g : List Int) : Bool := col g 3 != 0 && m.testBit (col g 0).toNat
def xii (m : Nat) (list : List (List Int)) : List (List Int) := ((List.range 9).filter m.testBit).map rOn ++ (list.filter fun g => !cov m g).map lft
def byF (m : Nat) (list : List (List Int)) : List (List Int) := ddR (xfB (leL [0, 1, 2]) (xii m list))
def xeS (list : List (List Int)) : Prop := ∀ g ∈ list, 0 ≤ col g 0 ∧ col g 0 ≤ 8
theorem xBf (g : List Int) : (lft g).length = 3 := by unfold lft; split <;> rfl
theorem xk9 (m : Nat) (list : List (List Int)) : ∀ x ∈ xii m list, x.length = 3 := by
 intro x hx
 rcases List.mem_append.1 hx with hx | hx
 ·obtain ⟨k, _, rfl⟩ := List.mem_map.1 hx; rfl
 ·obtain ⟨g, _, rfl⟩ := List.mem_map.1 hx; exact xBf g
theorem xph {a b : List Int} (ha : a.length = 3) (hb : b.length = 3) (h0 : col a 0 = col b 0) (h1 : col a 1 = col b 1) (h2 : col a 2 = col b 2) : a = b := by
 match a, b, ha, hb with
 | [a0, a1, a2], [b0, b1, b2], _, _ =>
  have h0 : a0 = b0 := h0
  have h1 : a1 = b1 := h1
  have h2 : a2 = b2 := h2
  rw [h0, h1, h2]
theorem xvQ {a b : List Int} (ha : a.length = 3) (hb : b.length = 3) : (col a 0 == col b 0 && (col a 1 == col b 1 && (col a 2 == col b 2 && true))) = decide (a = b) := by
 by_cases h : a = b
 ·subst h; simp
 ·rw [decide_eq_false h]
  cases hq : (col a 0 == col b 0 && (col a 1 == col b 1 && (col a 2 == col b 2 && true))) with
  | false => rfl
  | true =>
   simp only [Bool.and_eq_true, beq_iff_eq] at hq
   exact absurd (xph ha hb hq.1 hq.2.1 hq.2.2.1) h
theorem xAL {m : Nat} (hm : m < 512) (list : List (List Int)) : xax (xb8 m list) (xfU m list) ∧ gr (xjo m list).snd 1 = ((List.range 9).filter m.testBit).map rOn := by
 have hu : ∀ n, upto (fun i (s : List (List Int)) => if m.testBit i = true then s ++ [rOn i] else s) n [] = ((List.range n).filter m.testBit).map rOn := by
  intro n
  induction n with
  | zero => rfl
  | succ n ih =>
   show (if m.testBit n = true then upto _ n [] ++ [rOn n] else upto _ n []) = _
   rw [ih, List.range_succ, List.filter_append, List.map_append]
   cases hb : m.testBit n
   ·simp [hb]
   ·simp [hb]
 obtain ⟨h1, h2, _⟩ := xp8 (step := xb8 m list) 9 (fun i (s : List (List Int)) => [.i i, .r s]) (fun i s => if m.testBit i = true then s ++ [rOn i] else s) (fun i s => s.length ≤ i) 2 (fun s => [.i (9 : Nat), .r s])
  (fun i s hi hI => Nat.le_trans (xrB _ _ _) (by omega))
  (fun i s hi hI => by
   have hfit : xbl 24 (s.length + [[(2 : Int), (i : Int), 0]].length) := by unfold xbl maxLen; simp only [List.length_cons, List.length_nil]; omega
   unfold xb8
   simp only [gi_z, gr_1, gr_z, decide_eq_true (show (i : Int) < 9 by omega), cond_true, xaa (show (0 : Int) ≤ (i : Int) by omega), Int.toNat_natCast, xAM hm hi, xde (show i < 9223372036854775807 by omega)]
   rw [xaa hfit]
   cases m.testBit i
   ·rw [if_neg (by decide)]; rfl
   ·rw [if_pos rfl]; rfl)
  (fun s hI => by
   unfold xb8
   simp only [gi_z, gr_1, gr_z]
   rfl) (s := []) (Nat.le_refl _)
 refine ⟨h1, ?_⟩
 have : xjo m list = xam (xb8 m list) [.i ((0 : Nat) : Int), .r []] := rfl
 rw [this, h2]
 show gr [.i (9 : Nat), .r (upto _ 9 [])] 1 = _
 rw [gr_1, gr_z, hu]
theorem xCw {m : Nat} (hm : m < 512) {list : List (List Int)} (hs : xeS list) (hl : list.length ≤ 1000000) : xax (xcN m list) (xdw m list) ∧ gr (xan m list).snd 1 = xii m list := by
 have h9 : (((List.range 9).filter m.testBit).map rOn).length ≤ 9 := by
  rw [List.length_map]
  exact Nat.le_trans (List.length_filter_le _ _) (by simp)
 obtain ⟨h1, h2⟩ := xbZ (step := xcN m list) list (fun i (s : List (List Int)) => [.i i, .r s]) (fun s x => .inl (if (!cov m x) = true then s ++ [lft x] else s)) (fun i s => s.length ≤ 9 + i) (fun s => (3, [.i list.length, .r s])) 0
  (fun i s hi _ hI => by
   have hfit : ∀ x : List Int, xbl 24 (s.length + [x].length) := fun x => by unfold xbl maxLen; simp only [List.length_cons, List.length_nil]; omega
   refine ⟨?_, fun s' hs' => ?_⟩
   ·obtain ⟨q1, q2⟩ := hs _ (List.getElem_mem hi)
    unfold xcN xmT
    simp only [gi_z, gr_1, gr_z, dlt hi, xaa (xat hi), xde (show i < 9223372036854775807 by omega), xaM hi]
    generalize hx : list[i] = x at *
    rw [xaa (fun _ => q1), xaa (hfit _), xaa (hfit _)]
    have hb := xAM hm (show (col x 0).toNat < 9 by omega)
    have hb' : (bAnd IntKind.i64 ((m : Int).fdiv ((2 : Int) ^ min (x.getD 0 0).toNat IntKind.i64.bits)) 1 == 1) = m.testBit (col x 0).toNat := hb
    rw [hb']
    show (bif cov m x then _ else _) = _
    cases cov m x with
    | true => rw [if_neg (by decide)]; rfl
    | false =>
     rw [if_pos (show (!false) = true from rfl)]
     unfold lft
     by_cases h2 : x.getD 2 0 = 0
     ·rw [if_pos h2, h2]; rfl
     ·rw [if_neg h2]
      have : (x.getD 2 0 != 0) = true := by simpa using h2
      rw [this]; rfl
   ·cases hs'
    exact Nat.le_trans (xrB _ _ _) (by omega))
  (fun i s hi _ => by
   have : i = list.length := by omega
   subst this
   unfold xcN
   simp only [gi_z, gr_1, gr_z, dnlt]) (s := ((List.range 9).filter m.testBit).map rOn) (by omega)
 have e : xdw m list = [.i ((0 : Nat) : Int), .r (((List.range 9).filter m.testBit).map rOn)] := by
  unfold xdw
  rw [(xAL hm list).2]; rfl
 unfold xan
 rw [e]
 refine ⟨h1, ?_⟩
 rw [h2, List.drop_zero, xdV, xgJ]
 show gr [.i list.length, .r _] 1 = _
 rw [gr_1, gr_z]
 rfl
theorem xBO {a : List Int} (x y z : Int) : xoQ 3 a 0 [x, y, z] = [x, y, z] := rfl
theorem xCu {set : Int} {list T : List (List Int)} (hT : xaT 3 [0, 1, 2] (gr (xan set list).snd 1) = T) (h3 : ∀ x ∈ T, x.length = 3) {k0 : Nat} (hk : 0 < k0) (hk' : k0 < T.length) (hlen : T.length ≤ 10000000) (hd : ddR (T.take (k0 + 1)) = T.take k0) :
  xax (xb6 set list [.i k0]) (xcM set list [.i k0]) ∧ ∃ (k : Nat) (S : List (List Int)), xaq set list [.i k0] = (3, [.i k, .i (T.length - k0 : Nat), .r S]) ∧ k ≤ T.length ∧ S.length = T.length ∧ S.take k = ddR T := by
 have h3at : ∀ j (hj : j < T.length), T[j].length = 3 := fun j hj => h3 _ (List.getElem_mem hj)
 let f : Nat → Nat × List (List Int) → Nat × List (List Int) := fun i s => if T.getD (k0 + (i + 1)) [] = T.getD (k0 + i) [] then s else (s.1 + 1, s.2.set s.1 (T.getD (k0 + (i + 1)) []))
 let I : Nat → Nat × List (List Int) → Prop := fun i s => s.1 = (ddR (T.take (k0 + i + 1))).length ∧ s.2.length = T.length ∧ s.2.take s.1 = ddR (T.take (k0 + i + 1)) ∧ (∀ p, k0 + i ≤ p → s.2[p]? = T[p]?) ∧ s.1 ≤ k0 + i
 have hI : ∀ i s, i < T.length - k0 - 1 → I i s → I (i + 1) (f i s) := by
  rintro i ⟨k, S⟩ hi ⟨q1, q2, q3, q4, q5⟩
  have q5 : k ≤ k0 + i := q5
  have q4 : ∀ p, k0 + i ≤ p → S[p]? = T[p]? := q4
  have hj : k0 + i + 1 < T.length := by omega
  have e1 : T.getD (k0 + (i + 1)) [] = T[k0 + i + 1] := xaX (i := k0 + i + 1) hj
  have e2 : T.getD (k0 + i) [] = T[k0 + i] := xaX (by omega)
  have hdt := xps (l := T) (j := k0 + i + 1) (by omega) hj
  have hdl := xeQ T (k0 + i + 1) (by omega) (by omega)
  show I (i + 1) (if T.getD (k0 + (i + 1)) [] = T.getD (k0 + i) [] then (k, S) else (k + 1, S.set k (T.getD (k0 + (i + 1)) [])))
  rw [e1, e2]
  have e3 : k0 + i + 1 - 1 = k0 + i := rfl
  by_cases h : T[k0 + i + 1] = T[k0 + i]
  ·rw [if_pos h]
   rw [if_pos (by simpa using h)] at hdt
   refine ⟨?_, q2, ?_, fun p hp => q4 p (by omega), by show k ≤ k0 + (i + 1); omega⟩
   ·rw [show k0 + (i + 1) + 1 = k0 + i + 1 + 1 by omega, hdt]; exact q1
   ·rw [show k0 + (i + 1) + 1 = k0 + i + 1 + 1 by omega, hdt]; exact q3
  ·rw [if_neg h]
   rw [if_neg (by simpa using h)] at hdt
   have q1 : k = _ := q1
   have q2 : S.length = T.length := q2
   have q3 : S.take k = _ := q3
   refine ⟨?_, by simp [q2], ?_, fun p hp => ?_, by show k + 1 ≤ k0 + (i + 1); omega⟩
   ·rw [show k0 + (i + 1) + 1 = k0 + i + 1 + 1 by omega, hdt, List.length_append, ← q1]; rfl
   ·show (S.set k T[k0 + i + 1]).take (k + 1) = _
    rw [show k0 + (i + 1) + 1 = k0 + i + 1 + 1 by omega, hdt, List.take_succ_eq_append_getElem (by simp; omega)]
    congr 1
    ·rw [List.take_set_of_le (Nat.le_refl _), q3]
    ·simp
   ·show (S.set k T[k0 + i + 1])[p]? = _
    rw [List.getElem?_set_ne (by omega)]
    exact q4 p (by omega)
 obtain ⟨g1, g2, g3⟩ := xp8 (step := xb6 set list [.i k0]) (T.length - k0 - 1) (fun i (s : Nat × List (List Int)) => [.i s.1, .i ((i + 1 : Nat) : Int), .r s.2]) f I 2 (fun s => [.i s.1, .i (T.length - k0 : Nat), .r s.2]) hI
  (fun i s hi hIs => by
   obtain ⟨k, S⟩ := s
   obtain ⟨q1, q2, q3, q4, q5⟩ := hIs
   have q1 : k = _ := q1
   have q2 : S.length = T.length := q2
   have q4 : ∀ p, k0 + i ≤ p → S[p]? = T[p]? := q4
   have hj : k0 + i + 1 < T.length := by omega
   have hdl := xeQ T (k0 + i + 1) (by omega) (by omega)
   have e1 : T.getD (k0 + (i + 1)) [] = T[k0 + i + 1] := xaX (i := k0 + i + 1) hj
   have e2 : T.getD (k0 + i) [] = T[k0 + i] := xaX (by omega)
   have s1 : S.getD (k0 + i + 1) [] = T[k0 + i + 1] := by rw [List.getD_eq_getElem?_getD, q4 _ (by omega), List.getElem?_eq_getElem hj]; rfl
   have s2 : S.getD (k0 + i) [] = T[k0 + i] := by rw [List.getD_eq_getElem?_getD, q4 _ (by omega), List.getElem?_eq_getElem (by omega)]; rfl
   have hw1 : IntKind.i64.wrap (((i + 1 : Nat) : Int) - 1) = ((i : Nat) : Int) := by rw [xe3 (by omega)]; omega
   have hw2 : IntKind.i64.wrap ((k : Int) + 1) = ((k + 1 : Nat) : Int) := xde (by omega)
   have hw3 : IntKind.i64.wrap (((i + 1 : Nat) : Int) + 1) = ((i + 1 + 1 : Nat) : Int) := xde (by omega)
   unfold xb6 xmP xjn xg6 xc0 xfS
   rw [hT]
   simp only [gi_z, gi_1, gr_2, gr_1, gr_z, xaw, shI, loN, Int.toNat_natCast, hw1, hw2, hw3]
   rw [decide_eq_true (by omega), cond_true, xaa (by omega), xaa (by unfold inR; omega), xaa (by omega), xaa (by unfold inR; omega)]
   rw [show ((k0 : Int) + ((i + 1 : Nat) : Int)).toNat = k0 + i + 1 by omega, show ((k0 : Int) + ((i : Nat) : Int)).toNat = k0 + i by omega, s1, s2]
   have hq := xvQ (h3at (k0 + i + 1) hj) (h3at (k0 + i) (by omega))
   rw [hq]
   show _ = some (0, [U.i (f i (k, S)).1, U.i ((i + 1 + 1 : Nat) : Int), U.r (f i (k, S)).2])
   have ef : f i (k, S) = if T.getD (k0 + (i + 1)) [] = T.getD (k0 + i) [] then (k, S) else (k + 1, S.set k (T.getD (k0 + (i + 1)) [])) := rfl
   rw [ef, e1, e2]
   by_cases h : T[k0 + i + 1] = T[k0 + i]
   ·rw [if_pos h, decide_eq_true h]; rfl
   ·rw [if_neg h, decide_eq_false h]
    simp only [Bool.not_false, cond_true]
    rw [xaa (by omega), xaa (by unfold inR; omega), xaa (by unfold inR; omega), xaa (by unfold inR; omega), xBO]
    rw [xph (a := [col T[k0 + i + 1] 0, col T[k0 + i + 1] 1, col T[k0 + i + 1] 2]) (b := T[k0 + i + 1]) rfl (h3at _ hj) rfl rfl rfl])
  (fun s hIs => by
   obtain ⟨k, S⟩ := s
   unfold xb6 xjn
   rw [hT]
   simp only [gi_z, gi_1, gr_2, gr_1, gr_z, xaw, loN, Int.toNat_natCast]
   rw [decide_eq_false (by omega), cond_false, show T.length - k0 - 1 + 1 = T.length - k0 by omega]) (s := (k0, T))
  ⟨by rw [Nat.add_zero, hd, List.length_take]; show k0 = _; omega, rfl, by rw [Nat.add_zero, hd], fun p _ => rfl, Nat.le_refl _⟩
 have ei : xcM set list [.i k0] = [.i k0, .i ((0 + 1 : Nat) : Int), .r T] := by
  unfold xcM
  rw [hT]; rfl
 unfold xaq
 rw [ei]
 refine ⟨g1, _, _, g2, ?_, g3.2.1, ?_⟩
 ·have := g3.1
  rw [this]
  rw [show k0 + (T.length - k0 - 1) + 1 = T.length by omega]
  exact (xeQ T T.length (by omega) (Nat.le_refl _)).1
 ·have := g3.2.2.1
  rw [show k0 + (T.length - k0 - 1) + 1 = T.length by omega, List.take_length] at this
  exact this
theorem xCv {set : Int} {list T : List (List Int)} (hT : xaT 3 [0, 1, 2] (gr (xan set list).snd 1) = T) (h3 : ∀ x ∈ T, x.length = 3) (h2 : 2 ≤ T.length) (hlen : T.length ≤ 10000000) :
  xax (xb7 set list) (xfT set list) ∧
  (((xbp set list).1 = 1 ∧ 0 ≤ gi (xbp set list).2 0 ∧ gi (xbp set list).2 0 ≤ ((gr (xbp set list).2 1).length : Int) ∧ (gr (xbp set list).2 1).take (gi (xbp set list).2 0).toNat = ddR T) ∨ ((xbp set list).1 = 3 ∧ ddR T = T)) := by
 have h3at : ∀ j (hj : j < T.length), T[j].length = 3 := fun j hj => h3 _ (List.getElem_mem hj)
 refine xzQ (step := xb7 set list) (T.length - 1) (fun i xs => xs = [.i ((i + 1 : Nat) : Int)] ∧ ∀ j (hj : j < T.length), 0 < j → j < i + 1 → T[j] ≠ T[j - 1])
  (fun r => (r.1 = 1 ∧ 0 ≤ gi r.2 0 ∧ gi r.2 0 ≤ ((gr r.2 1).length : Int) ∧ (gr r.2 1).take (gi r.2 0).toNat = ddR T) ∨ (r.1 = 3 ∧ ddR T = T)) (fun i xs hi hinv => ?_) (fun xs hinv => ?_) ⟨rfl, fun j hj h0 h1 => by omega⟩
 ·obtain ⟨rfl, hne⟩ := hinv
  have hj : i + 1 < T.length := by omega
  have hw1 : IntKind.i64.wrap (((i + 1 : Nat) : Int) - 1) = ((i : Nat) : Int) := by rw [xe3 (by omega)]; omega
  have hw3 : IntKind.i64.wrap (((i + 1 : Nat) : Int) + 1) = ((i + 1 + 1 : Nat) : Int) := xde (by omega)
  have hstep : xb7 set list [.i ((i + 1 : Nat) : Int)] = bif decide (T[i + 1] = T[i]) then xab ((0 : Int) ≤ ((i + 1 : Nat) : Int) ∧ ((i + 1 : Nat) : Int) ≤ (T.length : Int)) (xab ((xax (xb6 set list [.i ((i + 1 : Nat) : Int)]) (xcM set list [.i ((i + 1 : Nat) : Int)]))) (xab (((0 : Int) ≤ gi (xaq set list [.i ((i + 1 : Nat) : Int)]).snd 0) ∧ (gi (xaq set list [.i ((i + 1 : Nat) : Int)]).snd 0 ≤ (↑(gr (xaq set list [.i ((i + 1 : Nat) : Int)]).snd 2).length : Int))) (xab (((↑(loN (xaw (↑(gr (xaq set list [.i ((i + 1 : Nat) : Int)]).snd 2).length : Int) (some (gi (xaq set list [.i ((i + 1 : Nat) : Int)]).snd 0)) none).snd.fst) : Int) ≤ (xb5 set list [.i ((i + 1 : Nat) : Int)])) ∧ ((xb5 set list [.i ((i + 1 : Nat) : Int)]) ≤ (↑(gr (xaq set list [.i ((i + 1 : Nat) : Int)]).snd 2).length : Int))) (xab (((0 : Int) ≤ gi (xaq set list [.i ((i + 1 : Nat) : Int)]).snd 0) ∧ (gi (xaq set list [.i ((i + 1 : Nat) : Int)]).snd 0 ≤ (↑((xee set list [.i ((i + 1 : Nat) : Int)]) ++ List.drop ((xb5 set list [.i ((i + 1 : Nat) : Int)])).toNat (gr (xaq set list [.i ((i + 1 : Nat) : Int)]).snd 2)).length : Int))) (some (1, [U.i ((xia set list [.i ((i + 1 : Nat) : Int)])), U.r ((xee set list [.i ((i + 1 : Nat) : Int)]) ++ List.drop ((xb5 set list [.i ((i + 1 : Nat) : Int)])).toNat (gr (xaq set list [.i ((i + 1 : Nat) : Int)]).snd 2))])))))) else some (0, [U.i ((i + 1 + 1 : Nat) : Int)]) := by
   unfold xb7 xmS xmR xmQ
   rw [hT]
   simp only [gi_z, hw1, hw3]
   rw [decide_eq_true (by omega), cond_true, xaa (xat hj), xaa (xat hj), xaa (xat (by omega)), xaa (xat (by omega)), xaM hj, xaM (show i < T.length by omega), xvQ (h3at _ hj) (h3at _ (by omega))]
  by_cases h : T[i + 1] = T[i]
  ·right
   have hd : ddR (T.take (i + 1 + 1)) = T.take (i + 1) := by
    rw [xps (by omega) hj, if_pos (by simpa using h)]
    exact xsU (i + 1) (by omega) (by omega) hne
   obtain ⟨g1, k, S, g2, g3, g4, g5⟩ := xCu hT h3 (by omega) hj hlen hd
   refine ⟨0, [.i k, .r (S.take k ++ List.replicate (S.length - k) [0, 0, 0] ++ S.drop S.length)], ?_, .inl ⟨rfl, ?_, ?_, ?_⟩⟩
   ·rw [hstep, decide_eq_true h, cond_true, xaa (by omega), xaa g1]
    unfold xia xee xlq xb5
    rw [g2]
    simp only [gi_z, gr_2, gr_1, gr_z, xaw, loN, Option.getD_some, Int.toNat_natCast]
    rw [xaa (by omega), xaa (by omega), xaa (by simp; omega)]
   ·rw [gi_z]; omega
   ·rw [gi_z, gr_1, gr_z]; simp; omega
   ·rw [gi_z, gr_1, gr_z, Int.toNat_natCast, List.append_assoc, List.take_append_of_le_length (by simp; omega), List.take_take, Nat.min_self, g5]
  ·left
   refine ⟨[.i ((i + 1 + 1 : Nat) : Int)], ?_, rfl, fun j hj' h0 h1 => ?_⟩
   ·rw [hstep, decide_eq_false h]; rfl
   ·by_cases e : j = i + 1
    ·subst e; simpa using h
    ·exact hne j hj' h0 (by omega)
 ·obtain ⟨rfl, hne⟩ := hinv
  refine ⟨2, [.i ((T.length - 1 + 1 : Nat) : Int)], ?_, .inr ⟨rfl, ?_⟩⟩
  ·unfold xb7
   rw [hT]
   simp only [gi_z]
   rw [decide_eq_false (by omega)]; rfl
  ·have := xsU T.length (by omega) (Nat.le_refl _) (fun j hj h0 h1 => hne j hj h0 (by omega))
   rwa [List.take_length] at this
theorem xCt {m : Nat} (hm : m < 512) {list : List (List Int)} (hs : xeS list) (hl : list.length ≤ 1000000) : xdE m list ∧ xaS m list = byF m list := by
 obtain ⟨a1, _⟩ := xAL hm list
 obtain ⟨b1, b2⟩ := xCw hm hs hl
 have hraw : (xii m list).length ≤ 1000009 := by
  unfold xii
  rw [List.length_append, List.length_map, List.length_map]
  have h1 : ((List.range 9).filter m.testBit).length ≤ 9 := Nat.le_trans (List.length_filter_le _ _) (by simp)
  have h2 := List.length_filter_le (fun g => !cov m g) list
  omega
 have hT : xaT 3 [0, 1, 2] (gr (xan m list).snd 1) = xfB (leL [0, 1, 2]) (xii m list) := by
  rw [b2]
  unfold xaT
  rw [xzO (xk9 m list)]
 have h3 : ∀ x ∈ xfB (leL [0, 1, 2]) (xii m list), x.length = 3 := fun x hx => xk9 m list x (xmM.1 hx)
 have hTl : (xfB (leL [0, 1, 2]) (xii m list)).length = (xii m list).length := xeK _
 unfold xdE xaS xlo xlp
 rw [hT]
 have key : (xfB (leL [0, 1, 2]) (xii m list)).length < 2 → ddR (xfB (leL [0, 1, 2]) (xii m list)) = xfB (leL [0, 1, 2]) (xii m list) := by
  intro h
  generalize xfB (leL [0, 1, 2]) (xii m list) = T at *
  match T, h with
  | [], _ => rfl
  | [x], _ => rfl
 by_cases h2 : (xfB (leL [0, 1, 2]) (xii m list)).length < 2
 ·refine ⟨⟨a1, b1, by rw [b2]; omega, fun h => ?_⟩, ?_⟩
  ·rw [decide_eq_true (by omega)] at h; cases h
  ·rw [decide_eq_true (by omega), cond_true]
   exact (key h2).symm
 ·obtain ⟨c1, c2⟩ := xCv hT h3 (by omega) (by omega)
  rw [decide_eq_false (by omega), cond_false]
  rcases c2 with ⟨d1, d2, d3, d4⟩ | ⟨d1, d2⟩
  ·refine ⟨⟨a1, b1, by rw [b2]; omega, fun _ => ⟨c1, fun _ => ⟨d2, d3⟩⟩⟩, ?_⟩
   rw [d1]
   exact d4
  ·refine ⟨⟨a1, b1, by rw [b2]; omega, fun _ => ⟨c1, fun h => by rw [d1] at h; cases h⟩⟩, ?_⟩
   rw [d1]
   exact d2.symm
theorem xyp {l : List (List Int)} (h3 : ∀ x ∈ l, x.length = 3) : ∀ x ∈ l, ∀ y ∈ l, leL [0, 1, 2] x y = true → leL [0, 1, 2] y x = true → x = y := fun x hx y hy h1 h2 => by
 have := xpl _ _ _ h1 h2
 exact xph (h3 x hx) (h3 y hy) (this 0 (by simp)) (this 1 (by simp)) (this 2 (by simp))
theorem xpv (m : Nat) (list : List (List Int)) : (byF m list).Pairwise (fun a b => leL [0, 1, 2] b a = false) ∧ ∀ x, x ∈ byF m list ↔ x ∈ xii m list := by
 have h3 : ∀ x ∈ xfB (leL [0, 1, 2]) (xii m list), x.length = 3 := fun x hx => xk9 m list x (xmM.1 hx)
 obtain ⟨h1, h2⟩ := xz4 (xgI (xeJ _) (xeI _) (xii m list)) (xyp h3)
 exact ⟨h1, fun x => by rw [show byF m list = ddR (xfB (leL [0, 1, 2]) (xii m list)) from rfl, h2, xmM]⟩
theorem xwu (m : Nat) (list : List (List Int)) : ∀ x ∈ byF m list, x.length = 3 := fun x hx => xk9 m list x (((xpv m list).2 x).1 hx)
end Go.Proofs.YtikhnofbbcmpeaaGreat
set_option linter.unusedVariables false
set_option maxRecDepth 100000
namespace Go.Proofs.YtikhnofbbcmpeaaGreat
open Go Go.Sy
theorem xwr (x y : List Int) : cfO x y < 0 ↔ leL [0, 1, 2] y x = false := by
 have := xvp x y
 constructor
 ·intro h; rw [decide_eq_true h] at this; simpa using this.symm
 ·intro h; rw [h] at this; simpa using this
theorem xpu (x y : List Int) : cfO x y = 0 ↔ (col x 0 = col y 0 ∧ col x 1 = col y 1 ∧ col x 2 = col y 2) := by
 show cfO x y = 0 ↔ (x.getD 0 0 = y.getD 0 0 ∧ x.getD 1 0 = y.getD 1 0 ∧ x.getD 2 0 = y.getD 2 0)
 unfold cfO
 rw [(xhg _ _ _ _ _ _).2]
 simp only [cmpC, orL]
 generalize x.getD 0 0 = a
 generalize x.getD 1 0 = b
 generalize x.getD 2 0 = c
 generalize y.getD 0 0 = d
 generalize y.getD 1 0 = e
 generalize y.getD 2 0 = f
 have one : ∀ u v : Int, (if u < v then (-1 : Int) else if v < u then 1 else 0) = 0 ↔ u = v := fun u v => by
  by_cases h1 : u < v
  ·rw [if_pos h1]; omega
  ·rw [if_neg h1]
   by_cases h2 : v < u
   ·rw [if_pos h2]; omega
   ·rw [if_neg h2]; omega
 by_cases h1 : (if a < d then (-1 : Int) else if d < a then 1 else 0) = 0
 ·rw [if_pos h1]
  by_cases h2 : (if b < e then (-1 : Int) else if e < b then 1 else 0) = 0
  ·rw [if_pos h2]
   by_cases h3 : (if c < f then (-1 : Int) else if f < c then 1 else 0) = 0
   ·rw [if_pos h3]
    exact ⟨fun _ => ⟨(one _ _).1 h1, (one _ _).1 h2, (one _ _).1 h3⟩, fun _ => rfl⟩
   ·rw [if_neg h3]
    exact ⟨fun h => absurd h h3, fun h => absurd ((one _ _).2 h.2.2) h3⟩
  ·rw [if_neg h2]
   exact ⟨fun h => absurd h h2, fun h => absurd ((one _ _).2 h.2.1) h2⟩
 ·rw [if_neg h1]
  exact ⟨fun h => absurd h h1, fun h => absurd ((one _ _).2 h.1) h1⟩
noncomputable def cmpL : List (List Int) → List (List Int) → Int
 | [], [] => 0
 | [], _ :: _ => -1
 | _ :: _, [] => 1
 | x :: r, y :: r' => if cfO x y = 0 then cmpL r r' else cfO x y
noncomputable def xe6 (x b : List (List Int)) : Bool := decide (x.length < b.length) || (x.length == b.length && decide (cmpL x b < 0))
theorem xwp : ∀ x, cmpL x x = 0
 | [] => rfl
 | x :: r => by
  unfold cmpL
  rw [if_pos ((xpu x x).2 ⟨rfl, rfl, rfl⟩)]
  exact xwp r
theorem xvq {x x' y : List Int} (h : cfO x x' = 0) : cfO x y = cfO x' y := by
 obtain ⟨h0, h1, h2⟩ := (xpu x x').1 h
 have h0 : x.getD 0 0 = x'.getD 0 0 := h0
 have h1 : x.getD 1 0 = x'.getD 1 0 := h1
 have h2 : x.getD 2 0 = x'.getD 2 0 := h2
 unfold cfO
 rw [h0, h1, h2]
theorem xqw {x y y' : List Int} (h : cfO y y' = 0) : cfO x y = cfO x y' := by
 obtain ⟨h0, h1, h2⟩ := (xpu y y').1 h
 have h0 : y.getD 0 0 = y'.getD 0 0 := h0
 have h1 : y.getD 1 0 = y'.getD 1 0 := h1
 have h2 : y.getD 2 0 = y'.getD 2 0 := h2
 unfold cfO
 rw [h0, h1, h2]
theorem xyj {x y z : List Int} (h : leL [0, 1, 2] y x = false) (k : leL [0, 1, 2] z y = false) : leL [0, 1, 2] z x = false := by
 have le_ne : ∀ {a b : List Int}, leL [0, 1, 2] a b = false → leL [0, 1, 2] b a = true := fun {a b} h => (xeJ _ a b).resolve_left (by simp [h])
 cases hz : leL [0, 1, 2] z x with
 | false => rfl
 | true =>
  have := xeI _ _ _ _ hz (le_ne h)
  rw [k] at this
  cases this
theorem xn8 : ∀ {x y z : List (List Int)}, x.length = y.length → y.length = z.length → cmpL x y < 0 → cmpL y z < 0 → cmpL x z < 0
 | [], [], [], _, _, h, _ => by simp [cmpL] at h
 | x :: r, y :: r', z :: r'', h1, h2, h, k => by
  unfold cmpL at h k ⊢
  by_cases e1 : cfO x y = 0
  ·rw [if_pos e1] at h
   by_cases e2 : cfO y z = 0
   ·rw [if_pos e2] at k
    rw [if_pos ((xqw e2).symm.trans e1)]
    exact xn8 (by simpa using h1) (by simpa using h2) h k
   ·rw [if_neg e2] at k
    have e3 : cfO x z = cfO y z := xvq e1
    rw [e3, if_neg e2]; exact k
  ·rw [if_neg e1] at h
   by_cases e2 : cfO y z = 0
   ·have e3 : cfO x y = cfO x z := xqw e2
    rw [← e3, if_neg e1]; exact h
   ·rw [if_neg e2] at k
    have e3 := (xwr x z).2 (xyj ((xwr x y).1 h) ((xwr y z).1 k))
    rw [if_neg (by omega)]; exact e3
 | [], [], _ :: _, _, h, _, _ => by simp at h
 | [], _ :: _, _, h, _, _, _ => by simp at h
 | _ :: _, [], _, h, _, _, _ => by simp at h
 | _ :: _, _ :: _, [], _, h, _, _ => by simp at h
theorem xoI {x y z : List (List Int)} (h : xe6 x y = true) (k : xe6 y z = true) : xe6 x z = true := by
 unfold xe6 at *
 simp only [Bool.or_eq_true, Bool.and_eq_true, decide_eq_true_eq, beq_iff_eq] at *
 rcases h with h | ⟨h1, h2⟩ <;> rcases k with k | ⟨k1, k2⟩
 ·left; omega
 ·left; omega
 ·left; omega
 ·right; exact ⟨by omega, xn8 h1 k1 h2 k2⟩
theorem xxq (x : List (List Int)) : xe6 x x = false := by
 unfold xe6
 rw [xwp]
 simp
def allF (list : List (List Int)) : Nat := list.foldl (fun a g => if col g 3 != 0 then a ||| 2 ^ (col g 0).toNat else a) 0
theorem xvE : ∀ (list : List (List Int)) (a : Nat), xeS list → a < 512 → (list.foldl (fun a g => if col g 3 != 0 then a ||| 2 ^ (col g 0).toNat else a) a) < 512 ∧ ∀ k, (list.foldl (fun a g => if col g 3 != 0 then a ||| 2 ^ (col g 0).toNat else a) a).testBit k = (a.testBit k || list.any fun g => col g 3 != 0 && decide ((col g 0).toNat = k))
 | [], a, _, ha => ⟨ha, fun k => by simp⟩
 | g :: r, a, hs, ha => by
  obtain ⟨q1, q2⟩ := hs g List.mem_cons_self
  have hr : xeS r := fun x hx => hs x (List.mem_cons_of_mem _ hx)
  rw [List.foldl_cons]
  cases h3 : (col g 3 != 0) with
  | false =>
   rw [if_neg (by decide)]
   obtain ⟨g1, g2⟩ := xvE r a hr ha
   refine ⟨g1, fun k => ?_⟩
   rw [g2, List.any_cons, h3, Bool.false_and, Bool.false_or]
  | true =>
   rw [if_pos rfl]
   have hlt : a ||| 2 ^ (col g 0).toNat < 512 := Nat.or_lt_two_pow (n := 9) ha (Nat.pow_lt_pow_right (by omega) (by omega))
   obtain ⟨g1, g2⟩ := xvE r _ hr hlt
   refine ⟨g1, fun k => ?_⟩
   rw [g2, List.any_cons, h3, Bool.true_and, Nat.testBit_or, Nat.testBit_two_pow, Bool.or_assoc]
theorem xwy {list : List (List Int)} (hs : xeS list) : allF list < 512 ∧ ∀ k, (allF list).testBit k = list.any fun g => col g 3 != 0 && decide ((col g 0).toNat = k) := by
 obtain ⟨h1, h2⟩ := xvE list 0 hs (by omega)
 refine ⟨h1, fun k => ?_⟩
 have := h2 k
 rw [Nat.zero_testBit, Bool.false_or] at this
 exact this
theorem xBz {list : List (List Int)} (hs : xeS list) (hl : list.length ≤ 1000000) : xax (xbj list) (xen list) ∧ gi (xdO list).snd 0 = ((allF list : Nat) : Int) := by
 have hin : ∀ (l : List (List Int)) (a : Nat), xeS l → a < 512 → runL (fun (s : Nat) x => .inl (if col x 3 != 0 then s ||| 2 ^ (col x 0).toNat else s)) a l = (.inl (l.foldl (fun a g => if col g 3 != 0 then a ||| 2 ^ (col g 0).toNat else a) a) : Nat ⊕ (Nat × List U)) := fun l a _ _ => xdV _ l a
 obtain ⟨h1, h2⟩ := xbZ (step := xbj list) list (fun i (s : Nat) => [.i (s : Int), .i i]) (fun s x => .inl (if col x 3 != 0 then s ||| 2 ^ (col x 0).toNat else s)) (fun i s => s < 512) (fun s => (2, [.i (s : Int), .i list.length])) 0
  (fun i s hi _ hI => by
   obtain ⟨q1, q2⟩ := hs _ (List.getElem_mem hi)
   refine ⟨?_, fun s' hs' => ?_⟩
   ·unfold xbj
    simp only [gi_z, gi_1, dlt hi, xaa (xat hi), xde (show i < 9223372036854775807 by omega), xaM hi]
    generalize hx : list[i] = x at *
    rw [xaa q1]
    have hb := xBS hI (show (col x 0).toNat < 9 by omega)
    rw [Int.toNat_of_nonneg q1] at hb
    have hb' : bOr IntKind.i64 (s : Int) (bShl IntKind.i64 1 (x.getD 0 0)) = ((s ||| 2 ^ (col x 0).toNat : Nat) : Int) := hb
    rw [hb']
    show (bif col x 3 != 0 then _ else _) = _
    cases (col x 3 != 0)
    ·rw [if_neg (by decide)]; rfl
    ·rw [if_pos rfl]; rfl
   ·cases hs'
    split
    ·exact Nat.or_lt_two_pow (n := 9) hI (Nat.pow_lt_pow_right (by omega) (by omega))
    ·exact hI)
  (fun i s hi _ => by
   have : i = list.length := by omega
   subst this
   unfold xbj
   simp only [gi_z, gi_1, dnlt]) (s := 0) (by omega)
 refine ⟨h1, ?_⟩
 have : xdO list = xam (xbj list) [.i ((0 : Nat) : Int), .i ((0 : Nat) : Int)] := rfl
 rw [this, h2, List.drop_zero, xdV]
 exact gi_z _ _
theorem xrQ : ∀ {x b : List (List Int)} {i : Nat} (hx : i < x.length) (hb : i < b.length), (∀ j (h1 : j < x.length) (h2 : j < b.length), j < i → cfO x[j] b[j] = 0) → cfO x[i] b[i] ≠ 0 → cmpL x b = cfO x[i] b[i]
 | x :: r, y :: r', 0, _, _, _, h => by
  unfold cmpL
  exact if_neg h
 | x :: r, y :: r', i + 1, hx, hb, h0, h => by
  unfold cmpL
  have e : cfO x y = 0 := h0 0 (by simp) (by simp) (by omega)
  rw [if_pos e]
  exact xrQ (by simpa using hx) (by simpa using hb) (fun j h1 h2 h3 => h0 (j + 1) (by simpa using h1) (by simpa using h2) (by omega)) h
theorem xuj : ∀ {x b : List (List Int)}, x.length = b.length → (∀ j (h1 : j < x.length) (h2 : j < b.length), cfO x[j] b[j] = 0) → cmpL x b = 0
 | [], [], _, _ => rfl
 | x :: r, y :: r', hl, h0 => by
  unfold cmpL
  have e : cfO x y = 0 := h0 0 (by simp) (by simp)
  rw [if_pos e]
  exact xuj (by simpa using hl) fun j h1 h2 => h0 (j + 1) (by simpa using h1) (by simpa using h2)
theorem xy7 {list : List (List Int)} {m : Nat} {b x : List (List Int)} (hby : xaS m list = x) (hl : x.length ≤ 9223372036854775807) (hlen : x.length = b.length) :
  xax (xbi list [.i m, .r b]) (xcl list [.i m, .r b]) ∧
  (bif (xbd list [.i m, .r b]).fst.beq 1 then (1 : Int) else bif (xbd list [.i m, .r b]).fst.beq 2 then gi (xbd list [.i m, .r b]).snd 0 else (xdN list [.i m, .r b])) = cmpL x b := by
 have hs1 : xdN list [.i m, .r b] = 0 := by
  unfold xdN
  simp only [gi_z, gr_1, gr_z, hby]
  rw [decide_eq_false (by omega)]; rfl
 rw [hs1]
 obtain ⟨h1, h2⟩ := xdC (step := xbi list [.i m, .r b]) x.length (fun i => cfO (x.getD i []) (b.getD i []) != 0) (fun i => [.i 0, .i i]) (fun i => [.i (cfO (x.getD i []) (b.getD i []))]) 1 3 [.i 0, .i x.length]
  (fun i hi => by
   unfold xbi xgp
   simp only [gi_z, gi_1, gr_1, gr_z]
   rw [hby, dlt hi, xaa (xat hi), xaa (xat hi), decide_eq_false (show ¬ ((i : Int) ≥ (b.length : Int)) by omega), cond_false, xaa (xat (by omega)), xaa (xat (by omega)), xaa (xhg _ _ _ _ _ _).1, xde (show i < 9223372036854775807 by omega), Int.toNat_natCast]
   rfl)
  (by
   unfold xbi
   simp only [gi_z, gi_1]
   rw [hby, dnlt])
 have hi : xcl list [.i m, .r b] = [.i 0, .i ((0 : Nat) : Int)] := rfl
 unfold xbd
 rw [hi]
 refine ⟨h1, ?_⟩
 rcases h2 with ⟨i, hi, hp, hn, hg⟩ | ⟨hn, hg⟩
 ·rw [hg]
  show gi [.i (cfO (x.getD i []) (b.getD i []))] 0 = _
  rw [gi_z, xaX hi, xaX (by omega)]
  refine (xrQ hi (by omega) (fun j q1 q2 q3 => ?_) ?_).symm
  ·have := hn j q3
   rw [xaX q1, xaX q2] at this
   simpa using this
  ·rw [xaX hi, xaX (show i < b.length by omega)] at hp
   simpa using hp
 ·rw [hg]
  show (0 : Int) = _
  refine (xuj hlen fun j q1 q2 => ?_).symm
  have := hn j q1
  rw [xaX q1, xaX q2] at this
  simpa using this
noncomputable def xd4 (list : List (List Int)) (i : Nat) (b : List (List Int)) : List (List Int) := if subB i (allF list) = true then (if xe6 (byF i list) b = true then byF i list else b) else b
noncomputable def fewF (list : List (List Int)) : List (List Int) := upto (xd4 list) (allF list + 1) (byF 0 list)
theorem cmpI (a b : Nat) : (xaj (a : Int) (b : Int) < 0 ↔ a < b) ∧ (xaj (a : Int) (b : Int) = 0 ↔ a = b) := by
 rw [cmpC]
 by_cases h1 : a < b
 ·rw [if_pos (by omega)]; omega
 ·rw [if_neg (by omega)]
  by_cases h2 : b < a
  ·rw [if_pos (by omega)]; omega
  ·rw [if_neg (by omega)]; omega
theorem xne (m : Nat) (list : List (List Int)) : (byF m list).length ≤ list.length + 9 := by
 unfold byF
 have h1 : ∀ l : List (List Int), (ddR l).length ≤ l.length := fun l => by
  cases l with
  | nil => exact Nat.le_refl _
  | cons x r =>
   have := (xeQ (x :: r) (x :: r).length (by simp) (Nat.le_refl _)).1
   rwa [List.take_length] at this
 refine Nat.le_trans (h1 _) ?_
 rw [xeK]
 unfold xii
 rw [List.length_append, List.length_map, List.length_map]
 have h1 : ((List.range 9).filter m.testBit).length ≤ 9 := Nat.le_trans (List.length_filter_le _ _) (by simp)
 have h2 := List.length_filter_le (fun g => !cov m g) list
 omega
theorem xt8 {list : List (List Int)} (hs : xeS list) (hl : list.length ≤ 1000000) : xb2 list ∧ xce list = fewF list := by
 obtain ⟨a1, a2⟩ := xBz hs hl
 obtain ⟨hall, _⟩ := xwy hs
 obtain ⟨b1, b2⟩ := xCt (m := 0) (by omega) hs hl
 have hw : IntKind.i64.wrap (gi (xdO list).snd 0 + 1) = ((allF list + 1 : Nat) : Int) := by rw [a2]; exact xde (by omega)
 obtain ⟨g1, g2, _⟩ := xp8 (step := xcm list) (allF list + 1) (fun i (b : List (List Int)) => [.i i, .r b]) (xd4 list) (fun _ _ => True) 3 (fun b => [.i (allF list + 1 : Nat), .r b]) (fun _ _ _ _ => trivial)
  (fun i b hi _ => by
   have hi5 : i < 512 := by omega
   obtain ⟨c1, c2⟩ := xCt hi5 hs hl
   have hxl := xne i list
   unfold xcm
   simp only [gi_z, gr_1, gr_z]
   rw [hw, decide_eq_true (by omega), cond_true, a2, xB1 hi5 hall, xde (by omega)]
   unfold xd4
   cases hsub : subB i (allF list) with
   | false => rw [if_neg (by decide)]; rfl
   | true =>
    rw [if_pos rfl, Bool.not_true, cond_false, xaa c1, c2]
    have hloop : (decide (xaj (↑(byF i list).length : Int) (↑b.length : Int) < (0 : Int)) = false) → (((xaj (↑(byF i list).length : Int) (↑b.length : Int) == (0 : Int)) = true) → ((xax (xbi list [.i i, .r b]) (xcl list [.i i, .r b])))) := fun _ he => by
     have := (cmpI _ _).2.1 (by simpa using he)
     exact (xy7 c2 (by omega) this).1
    rw [xaa hloop]
    have hcond : (decide (xaj (↑(byF i list).length : Int) (↑b.length : Int) < (0 : Int)) || xaj (↑(byF i list).length : Int) (↑b.length : Int) == (0 : Int) && decide ((bif (xbd list [.i i, .r b]).fst.beq 1 then (1 : Int) else bif (xbd list [.i i, .r b]).fst.beq 2 then gi (xbd list [.i i, .r b]).snd 0 else (xdN list [.i i, .r b])) < (0 : Int))) = xe6 (byF i list) b := by
     unfold xe6
     by_cases he : (byF i list).length = b.length
     ·rw [(xy7 c2 (by omega) he).2]
      have e1 : (xaj (↑(byF i list).length : Int) (↑b.length : Int) == 0) = ((byF i list).length == b.length) := by rw [(cmpI _ _).2.2 he, he]; simp
      rw [e1]
      congr 1
      exact decide_eq_decide.2 (cmpI _ _).1
     ·have e1 : (xaj (↑(byF i list).length : Int) (↑b.length : Int) == 0) = false := by
       simpa using fun h => he ((cmpI _ _).2.1 h)
      have e2 : ((byF i list).length == b.length) = false := by simpa using he
      rw [e1, e2, Bool.false_and, Bool.false_and]
      congr 1
      exact decide_eq_decide.2 (cmpI _ _).1
    rw [hcond]
    cases xe6 (byF i list) b
    ·rw [if_neg (by decide)]; rfl
    ·rw [if_pos rfl]; rfl)
  (fun b _ => by
   unfold xcm
   simp only [gi_z, gr_1, gr_z]
   rw [hw, decide_eq_false (by omega)]; rfl) (s := byF 0 list) trivial
 have hi : xdi list = [.i ((0 : Nat) : Int), .r (byF 0 list)] := by
  unfold xdi
  have := b2
  rw [show (xaS (0 : Int) list) = byF 0 list from this]; rfl
 unfold xb2 xce xiL
 rw [hi]
 refine ⟨⟨a1, b1, g1⟩, ?_⟩
 rw [g2]
 show gr [.i (allF list + 1 : Nat), .r (upto (xd4 list) (allF list + 1) (byF 0 list))] 1 = _
 rw [gr_1, gr_z]
 rfl
end Go.Proofs.YtikhnofbbcmpeaaGreat
