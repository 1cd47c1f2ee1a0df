/- Several texts in one (wip/pack.py): XInq6D XInq6 XInqHD XInqH XInqS1D XInqS1 XInqS2D XInqS2 XInqS3D XInqS3 XInqLSealsD XInqLSeals XInqPa XInqPb XInqPc XInqPd XInqPe XInqPf XInqPg. -/
import Derived.Test.YtikhnofbbcmpeaaGreatRows
import Derived.Test.YtikhnofbbcmpeaaGreatQIS05
import Derived.Test.YtikhnofbbcmpeaaGreatQIS06
set_option maxRecDepth 100000
set_option linter.unusedVariables false
namespace Go.Proofs.YtikhnofbbcmpeaaGreat
open Go Go.Sy
noncomputable def xke (office_Owner t delay : Int) (office_Lines ships list : List (List Int)) (y0 : List U) : List (List Int) :=
 putRow 1 [(ships.getD (gi y0 2).toNat []).getD 0 (0 : Int)]
 [(ships.getD (gi y0 2).toNat []).getD 0 (0 : Int), encL (decL ((ships.getD (gi y0 2).toNat []).getD 1 (0 : Int)))] (gr y0 3)
noncomputable def xcb (office_Owner t delay : Int) (office_Lines ships list : List (List Int)) : List U :=
 [.b (false), .i ((0 : Int)), .i ((0 : Int)), .r ([])]
noncomputable def xbl (office_Owner t delay : Int) (office_Lines ships list : List (List Int)) (y0 : List U) : Option (Nat × List U) :=
 (bif decide (gi y0 2 < (↑ships.length : Int)) then xac (inR (gi y0 2) ships) (xac (inR (gi y0 2) ships) (xac (xaA ((ships.getD (gi y0 2).toNat []).getD 0 (0 : Int)) (decL ((ships.getD (gi y0 2).toNat []).getD 1 (0 : Int)))) ((bif !xab ((ships.getD (gi y0 2).toNat []).getD 0 (0 : Int)) (decL ((ships.getD (gi y0 2).toNat []).getD 1 (0 : Int))) ||
 decide ((ships.getD (gi y0 2).toNat []).getD 0 (0 : Int) ≤ gi y0 1) then some (1, [.i (office_Owner), .i (t), .i (delay), .r (gr y0 3)]) else some (0, [.b (gb y0 0), .i ((ships.getD (gi y0 2).toNat []).getD 0 (0 : Int)), .i (IntKind.i64.wrap (gi y0 2 + (1 : Int))), .r ((xke office_Owner t delay office_Lines ships list y0))]))))) else some (3, [.b (gb y0 0), .i (gi y0 1), .i (gi y0 2), .r (gr y0 3)]))
noncomputable def xau (office_Owner t delay : Int) (office_Lines ships list : List (List Int)) : Nat × List U := xaC (xbl office_Owner t delay office_Lines ships list) (xcb office_Owner t delay office_Lines ships list)
noncomputable def xcY (office_Owner t delay : Int) (office_Lines ships list : List (List Int)) : List U :=
 [.i ((0 : Int)), .i ((0 : Int))]
noncomputable def xbk (office_Owner t delay : Int) (office_Lines ships list : List (List Int)) (y1 : List U) : Option (Nat × List U) :=
 (bif decide (gi y1 1 < (↑list.length : Int)) then xac (inR (gi y1 1) list) (xac (inR (gi y1 1) list) ((bif !(xbX 1 [(list.getD (gi y1 1).toNat []).getD 0 (0 : Int)] (gr (xau office_Owner t delay office_Lines ships list).snd 3)).isSome then some (1, [.i (gi y1 1)]) else some (0, [.i (gi y1 0), .i (IntKind.i64.wrap (gi y1 1 + (1 : Int)))])))) else some (3, [.i (gi y1 0), .i (gi y1 1)]))
noncomputable def xbM (office_Owner t delay : Int) (office_Lines ships list : List (List Int)) : Nat × List U := xaC (xbk office_Owner t delay office_Lines ships list) (xcY office_Owner t delay office_Lines ships list)
noncomputable def xha (office_Owner t delay : Int) (office_Lines ships list : List (List Int)) (y2 : List U) : List Int :=
 [((xar office_Owner t delay office_Lines (gr (xau office_Owner t delay office_Lines ships list).snd 3) list).getD (gi y2 0).toNat []).getD 0 (0 : Int),
 ((xar office_Owner t delay office_Lines (gr (xau office_Owner t delay office_Lines ships list).snd 3) list).getD (gi y2 0).toNat []).getD 1 (0 : Int)]
noncomputable def xgE (office_Owner t delay : Int) (office_Lines ships list : List (List Int)) : List U :=
 [.i ((0 : Int)), .r ([])]
noncomputable def xca (office_Owner t delay : Int) (office_Lines ships list : List (List Int)) (y2 : List U) : Option (Nat × List U) :=
 (bif decide (gi y2 0 < (↑(xar office_Owner t delay office_Lines (gr (xau office_Owner t delay office_Lines ships list).snd 3) list).length : Int)) then xac (inR (gi y2 0) (xar office_Owner t delay office_Lines (gr (xau office_Owner t delay office_Lines ships list).snd 3) list)) (xac (inR (gi y2 0) (xar office_Owner t delay office_Lines (gr (xau office_Owner t delay office_Lines ships list).snd 3) list)) (xac (xbH 16 ((gr y2 1).length + [(xha office_Owner t delay office_Lines ships list y2)].length)) (some (0, [.i (IntKind.i64.wrap (gi y2 0 + (1 : Int))), .r (gr y2 1 ++ [(xha office_Owner t delay office_Lines ships list y2)])])))) else some (2, [.i (gi y2 0), .r (gr y2 1)]))
noncomputable def xkf (office_Owner t delay : Int) (office_Lines ships list : List (List Int)) : Nat × List U := xaC (xca office_Owner t delay office_Lines ships list) (xgE office_Owner t delay office_Lines ships list)
noncomputable def xkd (office_Owner t delay : Int) (office_Lines ships list : List (List Int)) : List (List Int) :=
 bif !!decide ((bif (xbM office_Owner t delay office_Lines ships list).fst.beq 1 then gi (xbM office_Owner t delay office_Lines ships list).snd 0 else (-1 : Int)) ≥ (0 : Int)) then [] else gr (xkf office_Owner t delay office_Lines ships list).snd 1
noncomputable def xkc (office_Owner t delay : Int) (office_Lines ships list : List (List Int)) : List (List Int) :=
 bif !xab office_Owner office_Lines || office_Owner != (0 : Int) || !xaz list || !xav t || decide (delay < (0 : Int)) || decide (delay > (100000 : Int)) then []
else bif (xau office_Owner t delay office_Lines ships list).fst.beq 1 then [] else (xkd office_Owner t delay office_Lines ships list)
noncomputable def xec (office_Owner t delay : Int) (office_Lines ships list : List (List Int)) : List (List Int) :=
 (xkc office_Owner t delay office_Lines ships list)
noncomputable def xkb (office_Owner t delay : Int) (office_Lines ships list : List (List Int)) : Int :=
 bif !!decide ((bif (xbM office_Owner t delay office_Lines ships list).fst.beq 1 then gi (xbM office_Owner t delay office_Lines ships list).snd 0 else (-1 : Int)) ≥ (0 : Int)) then (1 : Int) else (0 : Int)
noncomputable def xka (office_Owner t delay : Int) (office_Lines ships list : List (List Int)) : Int :=
 bif !xab office_Owner office_Lines || office_Owner != (0 : Int) || !xaz list || !xav t || decide (delay < (0 : Int)) || decide (delay > (100000 : Int)) then
 (1 : Int)
else bif (xau office_Owner t delay office_Lines ships list).fst.beq 1 then (1 : Int) else (xkb office_Owner t delay office_Lines ships list)
noncomputable def xeb (office_Owner t delay : Int) (office_Lines ships list : List (List Int)) : Int :=
 (xka office_Owner t delay office_Lines ships list)
def xcR (office_Owner t delay : Int) (office_Lines ships list : List (List Int)) : Prop :=
 ((xaA office_Owner office_Lines) ∧ ((((!xab office_Owner office_Lines || office_Owner != (0 : Int)) = false) → (xbA list)) ∧ (((!xab office_Owner office_Lines || office_Owner != (0 : Int) || !xaz list || !xav t || decide (delay < (0 : Int)) || decide (delay > (100000 : Int))) = false) → (((xaM (xbl office_Owner t delay office_Lines ships list) (xcb office_Owner t delay office_Lines ships list))) ∧ (((xau office_Owner t delay office_Lines ships list).fst.beq 1 = false) → (((xaM (xbk office_Owner t delay office_Lines ships list) (xcY office_Owner t delay office_Lines ships list))) ∧ (((!!decide ((bif (xbM office_Owner t delay office_Lines ships list).fst.beq 1 then gi (xbM office_Owner t delay office_Lines ships list).snd 0 else (-1 : Int)) ≥ (0 : Int))) = false) → ((xcS office_Owner t delay office_Lines (gr (xau office_Owner t delay office_Lines ships list).snd 3) list) ∧ ((xaM (xca office_Owner t delay office_Lines ships list) (xgE office_Owner t delay office_Lines ships list)))))))))))
noncomputable def xml (office_Owner t delay : Int) (office_Lines ships list : List (List Int)) (y0 : List U) : List (List Int) :=
 putRow 1 [(ships.getD (gi y0 2).toNat []).getD 0 (0 : Int)]
 [(ships.getD (gi y0 2).toNat []).getD 0 (0 : Int), encL (decL ((ships.getD (gi y0 2).toNat []).getD 1 (0 : Int)))] (gr y0 3)
noncomputable def xd1 (office_Owner t delay : Int) (office_Lines ships list : List (List Int)) : List U :=
 [.b (false), .i ((0 : Int)), .i ((0 : Int)), .r ([])]
noncomputable def xd0 (office_Owner t delay : Int) (office_Lines ships list : List (List Int)) (y0 : List U) : Option (Nat × List U) :=
 (bif decide (gi y0 2 < (↑ships.length : Int)) then xac (inR (gi y0 2) ships) (xac (inR (gi y0 2) ships) (xac (xaA ((ships.getD (gi y0 2).toNat []).getD 0 (0 : Int)) (decL ((ships.getD (gi y0 2).toNat []).getD 1 (0 : Int)))) ((bif !xab ((ships.getD (gi y0 2).toNat []).getD 0 (0 : Int)) (decL ((ships.getD (gi y0 2).toNat []).getD 1 (0 : Int))) ||
 decide ((ships.getD (gi y0 2).toNat []).getD 0 (0 : Int) ≤ gi y0 1) then some (1, [.i (office_Owner), .i (t), .i (delay), .r (gr y0 3)]) else some (0, [.b (gb y0 0), .i ((ships.getD (gi y0 2).toNat []).getD 0 (0 : Int)), .i (IntKind.i64.wrap (gi y0 2 + (1 : Int))), .r ((xml office_Owner t delay office_Lines ships list y0))]))))) else some (3, [.b (gb y0 0), .i (gi y0 1), .i (gi y0 2), .r (gr y0 3)]))
noncomputable def xaO (office_Owner t delay : Int) (office_Lines ships list : List (List Int)) : Nat × List U := xaC (xd0 office_Owner t delay office_Lines ships list) (xd1 office_Owner t delay office_Lines ships list)
noncomputable def xdZ (office_Owner t delay : Int) (office_Lines ships list : List (List Int)) : List U :=
 [.i ((0 : Int)), .i ((0 : Int))]
noncomputable def xdY (office_Owner t delay : Int) (office_Lines ships list : List (List Int)) (y1 : List U) : Option (Nat × List U) :=
 (bif decide (gi y1 1 < (↑list.length : Int)) then xac (inR (gi y1 1) list) (xac (inR (gi y1 1) list) ((bif !(xbX 1 [(list.getD (gi y1 1).toNat []).getD 0 (0 : Int)] (gr (xaO office_Owner t delay office_Lines ships list).snd 3)).isSome then some (1, [.i (gi y1 1)]) else some (0, [.i (gi y1 0), .i (IntKind.i64.wrap (gi y1 1 + (1 : Int)))])))) else some (3, [.i (gi y1 0), .i (gi y1 1)]))
noncomputable def xbu (office_Owner t delay : Int) (office_Lines ships list : List (List Int)) : Nat × List U := xaC (xdY office_Owner t delay office_Lines ships list) (xdZ office_Owner t delay office_Lines ships list)
noncomputable def xhz (office_Owner t delay : Int) (office_Lines ships list : List (List Int)) : List (List Int) :=
 bif !!decide ((bif (xbu office_Owner t delay office_Lines ships list).fst.beq 1 then gi (xbu office_Owner t delay office_Lines ships list).snd 0 else (-1 : Int)) ≥ (0 : Int)) then []
else xcd (xar office_Owner t delay office_Lines (gr (xaO office_Owner t delay office_Lines ships list).snd 3) list)
noncomputable def xhy (office_Owner t delay : Int) (office_Lines ships list : List (List Int)) : List (List Int) :=
 bif !xab office_Owner office_Lines || office_Owner != (0 : Int) || !xaz list || !xav t || decide (delay < (0 : Int)) || decide (delay > (100000 : Int)) then []
else bif (xaO office_Owner t delay office_Lines ships list).fst.beq 1 then [] else (xhz office_Owner t delay office_Lines ships list)
noncomputable def xdc (office_Owner t delay : Int) (office_Lines ships list : List (List Int)) : List (List Int) :=
 (xhy office_Owner t delay office_Lines ships list)
noncomputable def xhx (office_Owner t delay : Int) (office_Lines ships list : List (List Int)) : List (List Int) :=
 bif !!decide ((bif (xbu office_Owner t delay office_Lines ships list).fst.beq 1 then gi (xbu office_Owner t delay office_Lines ships list).snd 0 else (-1 : Int)) ≥ (0 : Int)) then []
else
 xwi (↑(xcd (xar office_Owner t delay office_Lines (gr (xaO office_Owner t delay office_Lines ships list).snd 3) list)).length : Int)
  (xar office_Owner t delay office_Lines (gr (xaO office_Owner t delay office_Lines ships list).snd 3) list)
noncomputable def xhw (office_Owner t delay : Int) (office_Lines ships list : List (List Int)) : List (List Int) :=
 bif !xab office_Owner office_Lines || office_Owner != (0 : Int) || !xaz list || !xav t || decide (delay < (0 : Int)) || decide (delay > (100000 : Int)) then []
else bif (xaO office_Owner t delay office_Lines ships list).fst.beq 1 then [] else (xhx office_Owner t delay office_Lines ships list)
noncomputable def xdb (office_Owner t delay : Int) (office_Lines ships list : List (List Int)) : List (List Int) :=
 (xhw office_Owner t delay office_Lines ships list)
noncomputable def xhv (office_Owner t delay : Int) (office_Lines ships list : List (List Int)) : Int :=
 bif !!decide ((bif (xbu office_Owner t delay office_Lines ships list).fst.beq 1 then gi (xbu office_Owner t delay office_Lines ships list).snd 0 else (-1 : Int)) ≥ (0 : Int)) then (1 : Int) else (0 : Int)
noncomputable def xhu (office_Owner t delay : Int) (office_Lines ships list : List (List Int)) : Int :=
 bif !xab office_Owner office_Lines || office_Owner != (0 : Int) || !xaz list || !xav t || decide (delay < (0 : Int)) || decide (delay > (100000 : Int)) then
 (1 : Int)
else bif (xaO office_Owner t delay office_Lines ships list).fst.beq 1 then (1 : Int) else (xhv office_Owner t delay office_Lines ships list)
noncomputable def xda (office_Owner t delay : Int) (office_Lines ships list : List (List Int)) : Int :=
 (xhu office_Owner t delay office_Lines ships list)
def xbT (office_Owner t delay : Int) (office_Lines ships list : List (List Int)) : Prop :=
 ((xaA office_Owner office_Lines) ∧ ((((!xab office_Owner office_Lines || office_Owner != (0 : Int)) = false) → (xbA list)) ∧ (((!xab office_Owner office_Lines || office_Owner != (0 : Int) || !xaz list || !xav t || decide (delay < (0 : Int)) || decide (delay > (100000 : Int))) = false) → (((xaM (xd0 office_Owner t delay office_Lines ships list) (xd1 office_Owner t delay office_Lines ships list))) ∧ (((xaO office_Owner t delay office_Lines ships list).fst.beq 1 = false) → (((xaM (xdY office_Owner t delay office_Lines ships list) (xdZ office_Owner t delay office_Lines ships list))) ∧ (((!!decide ((bif (xbu office_Owner t delay office_Lines ships list).fst.beq 1 then gi (xbu office_Owner t delay office_Lines ships list).snd 0 else (-1 : Int)) ≥ (0 : Int))) = false) → ((xcS office_Owner t delay office_Lines (gr (xaO office_Owner t delay office_Lines ships list).snd 3) list) ∧ ((xb3 (xar office_Owner t delay office_Lines (gr (xaO office_Owner t delay office_Lines ships list).snd 3) list)) ∧ (xsc (↑(xcd (xar office_Owner t delay office_Lines (gr (xaO office_Owner t delay office_Lines ships list).snd 3) list)).length : Int)
 (xar office_Owner t delay office_Lines (gr (xaO office_Owner t delay office_Lines ships list).snd 3) list)))))))))))
noncomputable def xm9 (office_Owner t delay : Int) (office_Lines ships list omissions proof : List (List Int)) (y0 : List U) : List (List Int) :=
 putRow 1 [(ships.getD (gi y0 2).toNat []).getD 0 (0 : Int)]
 [(ships.getD (gi y0 2).toNat []).getD 0 (0 : Int), encL (decL ((ships.getD (gi y0 2).toNat []).getD 1 (0 : Int)))] (gr y0 3)
noncomputable def xev (office_Owner t delay : Int) (office_Lines ships list omissions proof : List (List Int)) : List U :=
 [.b (false), .i ((0 : Int)), .i ((0 : Int)), .r ([])]
noncomputable def xeu (office_Owner t delay : Int) (office_Lines ships list omissions proof : List (List Int)) (y0 : List U) : Option (Nat × List U) :=
 (bif decide (gi y0 2 < (↑ships.length : Int)) then xac (inR (gi y0 2) ships) (xac (inR (gi y0 2) ships) (xac (xaA ((ships.getD (gi y0 2).toNat []).getD 0 (0 : Int)) (decL ((ships.getD (gi y0 2).toNat []).getD 1 (0 : Int)))) ((bif !xab ((ships.getD (gi y0 2).toNat []).getD 0 (0 : Int)) (decL ((ships.getD (gi y0 2).toNat []).getD 1 (0 : Int))) ||
 decide ((ships.getD (gi y0 2).toNat []).getD 0 (0 : Int) ≤ gi y0 1) then some (1, [.i (office_Owner), .i (t), .i (delay), .r (gr y0 3)]) else some (0, [.b (gb y0 0), .i ((ships.getD (gi y0 2).toNat []).getD 0 (0 : Int)), .i (IntKind.i64.wrap (gi y0 2 + (1 : Int))), .r ((xm9 office_Owner t delay office_Lines ships list omissions proof y0))]))))) else some (3, [.b (gb y0 0), .i (gi y0 1), .i (gi y0 2), .r (gr y0 3)]))
noncomputable def xat (office_Owner t delay : Int) (office_Lines ships list omissions proof : List (List Int)) : Nat × List U := xaC (xeu office_Owner t delay office_Lines ships list omissions proof) (xev office_Owner t delay office_Lines ships list omissions proof)
noncomputable def xet (office_Owner t delay : Int) (office_Lines ships list omissions proof : List (List Int)) : List U :=
 [.i ((0 : Int)), .i ((0 : Int))]
noncomputable def xes (office_Owner t delay : Int) (office_Lines ships list omissions proof : List (List Int)) (y1 : List U) : Option (Nat × List U) :=
 (bif decide (gi y1 1 < (↑list.length : Int)) then xac (inR (gi y1 1) list) (xac (inR (gi y1 1) list) ((bif !(xbX 1 [(list.getD (gi y1 1).toNat []).getD 0 (0 : Int)] (gr (xat office_Owner t delay office_Lines ships list omissions proof).snd 3)).isSome then some (1, [.i (gi y1 1)]) else some (0, [.i (gi y1 0), .i (IntKind.i64.wrap (gi y1 1 + (1 : Int)))])))) else some (3, [.i (gi y1 0), .i (gi y1 1)]))
noncomputable def xcr (office_Owner t delay : Int) (office_Lines ships list omissions proof : List (List Int)) : Nat × List U := xaC (xes office_Owner t delay office_Lines ships list omissions proof) (xet office_Owner t delay office_Lines ships list omissions proof)
noncomputable def xiu (office_Owner t delay : Int) (office_Lines ships list omissions proof : List (List Int)) (y2 : List U) : Int :=
 xc9 ((omissions.getD (IntKind.i64.wrap (gi y2 1 - (1 : Int))).toNat []).getD 0 (0 : Int))
 ((omissions.getD (IntKind.i64.wrap (gi y2 1 - (1 : Int))).toNat []).getD 1 (0 : Int))
 ((omissions.getD (IntKind.i64.wrap (gi y2 1 - (1 : Int))).toNat []).getD 2 (0 : Int)) ((omissions.getD (gi y2 1).toNat []).getD 0 (0 : Int))
 ((omissions.getD (gi y2 1).toNat []).getD 1 (0 : Int)) ((omissions.getD (gi y2 1).toNat []).getD 2 (0 : Int))
noncomputable def xer (office_Owner t delay : Int) (office_Lines ships list omissions proof : List (List Int)) : List U :=
 [.b (false), .i ((1 : Int))]
noncomputable def xcp (office_Owner t delay : Int) (office_Lines ships list omissions proof : List (List Int)) (y2 : List U) : Option (Nat × List U) :=
 (bif decide (gi y2 1 < (↑omissions.length : Int)) then xac (inR (IntKind.i64.wrap (gi y2 1 - (1 : Int))) omissions) (xac (inR (IntKind.i64.wrap (gi y2 1 - (1 : Int))) omissions) (xac (inR (gi y2 1) omissions) (xac (inR (gi y2 1) omissions) (xac (xbS ((omissions.getD (IntKind.i64.wrap (gi y2 1 - (1 : Int))).toNat []).getD 0 (0 : Int))
 ((omissions.getD (IntKind.i64.wrap (gi y2 1 - (1 : Int))).toNat []).getD 1 (0 : Int))
 ((omissions.getD (IntKind.i64.wrap (gi y2 1 - (1 : Int))).toNat []).getD 2 (0 : Int)) ((omissions.getD (gi y2 1).toNat []).getD 0 (0 : Int))
 ((omissions.getD (gi y2 1).toNat []).getD 1 (0 : Int)) ((omissions.getD (gi y2 1).toNat []).getD 2 (0 : Int))) ((bif decide ((xiu office_Owner t delay office_Lines ships list omissions proof y2) ≥ (0 : Int)) then some (1, []) else some (0, [.b (gb y2 0), .i (IntKind.i64.wrap (gi y2 1 + (1 : Int)))]))))))) else some (3, [.b (gb y2 0), .i (gi y2 1)]))
noncomputable def xdP (office_Owner t delay : Int) (office_Lines ships list omissions proof : List (List Int)) : Nat × List U := xaC (xcp office_Owner t delay office_Lines ships list omissions proof) (xer office_Owner t delay office_Lines ships list omissions proof)
noncomputable def xit (office_Owner t delay : Int) (office_Lines ships list omissions proof : List (List Int)) (y3 : List U) : Int :=
 xeI ((proof.getD (IntKind.i64.wrap (gi y3 1 - (1 : Int))).toNat []).getD 0 (0 : Int))
 ((proof.getD (IntKind.i64.wrap (gi y3 1 - (1 : Int))).toNat []).getD 1 (0 : Int)) ((proof.getD (gi y3 1).toNat []).getD 0 (0 : Int))
 ((proof.getD (gi y3 1).toNat []).getD 1 (0 : Int))
noncomputable def xeq (office_Owner t delay : Int) (office_Lines ships list omissions proof : List (List Int)) : List U :=
 [.b (false), .i ((1 : Int))]
noncomputable def xco (office_Owner t delay : Int) (office_Lines ships list omissions proof : List (List Int)) (y3 : List U) : Option (Nat × List U) :=
 (bif decide (gi y3 1 < (↑proof.length : Int)) then xac (inR (IntKind.i64.wrap (gi y3 1 - (1 : Int))) proof) (xac (inR (IntKind.i64.wrap (gi y3 1 - (1 : Int))) proof) (xac (inR (gi y3 1) proof) (xac (inR (gi y3 1) proof) (xac (xc8 ((proof.getD (IntKind.i64.wrap (gi y3 1 - (1 : Int))).toNat []).getD 0 (0 : Int))
 ((proof.getD (IntKind.i64.wrap (gi y3 1 - (1 : Int))).toNat []).getD 1 (0 : Int)) ((proof.getD (gi y3 1).toNat []).getD 0 (0 : Int))
 ((proof.getD (gi y3 1).toNat []).getD 1 (0 : Int))) ((bif decide ((xit office_Owner t delay office_Lines ships list omissions proof y3) ≥ (0 : Int)) then some (1, []) else some (0, [.b (gb y3 0), .i (IntKind.i64.wrap (gi y3 1 + (1 : Int)))]))))))) else some (3, [.b (gb y3 0), .i (gi y3 1)]))
noncomputable def xeU (office_Owner t delay : Int) (office_Lines ships list omissions proof : List (List Int)) : Nat × List U := xaC (xco office_Owner t delay office_Lines ships list omissions proof) (xeq office_Owner t delay office_Lines ships list omissions proof)
noncomputable def xeo (office_Owner t delay : Int) (office_Lines ships list omissions proof : List (List Int)) (y4 : List U) : List U :=
 [.i ((0 : Int)), .i ((0 : Int))]
noncomputable def xcn (office_Owner t delay : Int) (office_Lines ships list omissions proof : List (List Int)) (y4 : List U) (y5 : List U) : Option (Nat × List U) :=
 (bif decide (gi y5 1 < (↑omissions.length : Int)) then xac (inR (gi y5 1) omissions) (xac (inR (gi y5 1) omissions) ((bif xf1 (((xar office_Owner t delay office_Lines (gr (xat office_Owner t delay office_Lines ships list omissions proof).snd 3) list).getD (gi y4 2).toNat []).getD 0 (0 : Int))
 (((xar office_Owner t delay office_Lines (gr (xat office_Owner t delay office_Lines ships list omissions proof).snd 3) list).getD (gi y4 2).toNat []).getD 1 (0 : Int))
 (((xar office_Owner t delay office_Lines (gr (xat office_Owner t delay office_Lines ships list omissions proof).snd 3) list).getD (gi y4 2).toNat []).getD 2 (0 : Int) != (0 : Int))
 (((xar office_Owner t delay office_Lines (gr (xat office_Owner t delay office_Lines ships list omissions proof).snd 3) list).getD (gi y4 2).toNat []).getD 3 (0 : Int) != (0 : Int))
 ((omissions.getD (gi y5 1).toNat []).getD 0 (0 : Int)) ((omissions.getD (gi y5 1).toNat []).getD 1 (0 : Int))
 ((omissions.getD (gi y5 1).toNat []).getD 2 (0 : Int)) then some (1, [.i (gi y5 1)]) else some (0, [.i (gi y5 0), .i (IntKind.i64.wrap (gi y5 1 + (1 : Int)))])))) else some (3, [.i (gi y5 0), .i (gi y5 1)]))
noncomputable def xeT (office_Owner t delay : Int) (office_Lines ships list omissions proof : List (List Int)) (y4 : List U) : Nat × List U := xaC (xcn office_Owner t delay office_Lines ships list omissions proof y4) (xeo office_Owner t delay office_Lines ships list omissions proof y4)
noncomputable def xen (office_Owner t delay : Int) (office_Lines ships list omissions proof : List (List Int)) (y4 : List U) : List U :=
 [.i ((0 : Int)), .i ((0 : Int))]
noncomputable def xcm (office_Owner t delay : Int) (office_Lines ships list omissions proof : List (List Int)) (y4 : List U) (y6 : List U) : Option (Nat × List U) :=
 (bif decide (gi y6 1 < (↑proof.length : Int)) then xac (inR (gi y6 1) proof) (xac (inR (gi y6 1) proof) ((bif ((xar office_Owner t delay office_Lines (gr (xat office_Owner t delay office_Lines ships list omissions proof).snd 3) list).getD (gi y4 2).toNat []).getD 0 (0 : Int) ==
  (proof.getD (gi y6 1).toNat []).getD 0 (0 : Int) &&
 (((xar office_Owner t delay office_Lines (gr (xat office_Owner t delay office_Lines ships list omissions proof).snd 3) list).getD (gi y4 2).toNat []).getD 1 (0 : Int) ==
   (proof.getD (gi y6 1).toNat []).getD 1 (0 : Int) &&
  true) then some (1, [.i (gi y6 1)]) else some (0, [.i (gi y6 0), .i (IntKind.i64.wrap (gi y6 1 + (1 : Int)))])))) else some (3, [.i (gi y6 0), .i (gi y6 1)]))
noncomputable def xeS (office_Owner t delay : Int) (office_Lines ships list omissions proof : List (List Int)) (y4 : List U) : Nat × List U := xaC (xcm office_Owner t delay office_Lines ships list omissions proof y4) (xen office_Owner t delay office_Lines ships list omissions proof y4)
noncomputable def xem (office_Owner t delay : Int) (office_Lines ships list omissions proof : List (List Int)) (y4 : List U) : List U :=
 [.i ((0 : Int)), .i ((0 : Int))]
noncomputable def xcl (office_Owner t delay : Int) (office_Lines ships list omissions proof : List (List Int)) (y4 : List U) (y7 : List U) : Option (Nat × List U) :=
 (bif decide (gi y7 1 < (↑(gr y4 3).length : Int)) then xac (inR (gi y7 1) (gr y4 3)) (xac (inR (gi y7 1) (gr y4 3)) ((bif !xfz (((xar office_Owner t delay office_Lines (gr (xat office_Owner t delay office_Lines ships list omissions proof).snd 3) list).getD (gi y4 2).toNat []).getD 0 (0 : Int))
  (((xar office_Owner t delay office_Lines (gr (xat office_Owner t delay office_Lines ships list omissions proof).snd 3) list).getD (gi y4 2).toNat []).getD 1 (0 : Int))
  (((xar office_Owner t delay office_Lines (gr (xat office_Owner t delay office_Lines ships list omissions proof).snd 3) list).getD (gi y4 2).toNat []).getD 2 (0 : Int) != (0 : Int))
  (((xar office_Owner t delay office_Lines (gr (xat office_Owner t delay office_Lines ships list omissions proof).snd 3) list).getD (gi y4 2).toNat []).getD 3 (0 : Int) != (0 : Int))
  (((gr y4 3).getD (gi y7 1).toNat []).getD 0 (0 : Int)) (((gr y4 3).getD (gi y7 1).toNat []).getD 1 (0 : Int))
  (((gr y4 3).getD (gi y7 1).toNat []).getD 2 (0 : Int) != (0 : Int)) (((gr y4 3).getD (gi y7 1).toNat []).getD 3 (0 : Int) != (0 : Int)) then some (1, [.i (gi y7 1)]) else some (0, [.i (gi y7 0), .i (IntKind.i64.wrap (gi y7 1 + (1 : Int)))])))) else some (3, [.i (gi y7 0), .i (gi y7 1)]))
noncomputable def xeR (office_Owner t delay : Int) (office_Lines ships list omissions proof : List (List Int)) (y4 : List U) : Nat × List U := xaC (xcl office_Owner t delay office_Lines ships list omissions proof y4) (xem office_Owner t delay office_Lines ships list omissions proof y4)
noncomputable def xis (office_Owner t delay : Int) (office_Lines ships list omissions proof : List (List Int)) (y4 : List U) : List Int :=
 [bif ((xar office_Owner t delay office_Lines (gr (xat office_Owner t delay office_Lines ships list omissions proof).snd 3) list).getD (gi y4 2).toNat []).getD 2 (0 : Int) != (0 : Int) then (1 : Int)
 else (0 : Int),
 bif ((xar office_Owner t delay office_Lines (gr (xat office_Owner t delay office_Lines ships list omissions proof).snd 3) list).getD (gi y4 2).toNat []).getD 3 (0 : Int) != (0 : Int) then (1 : Int)
 else (0 : Int)]
noncomputable def xeQ (office_Owner t delay : Int) (office_Lines ships list omissions proof : List (List Int)) (y4 : List U) : List Int :=
 ((xar office_Owner t delay office_Lines (gr (xat office_Owner t delay office_Lines ships list omissions proof).snd 3) list).getD (gi y4 2).toNat []).getD 0 (0 : Int) ::
 ((xar office_Owner t delay office_Lines (gr (xat office_Owner t delay office_Lines ships list omissions proof).snd 3) list).getD (gi y4 2).toNat []).getD 1 (0 : Int) :: (xis office_Owner t delay office_Lines ships list omissions proof y4)
noncomputable def xep (office_Owner t delay : Int) (office_Lines ships list omissions proof : List (List Int)) : List U :=
 [.b (false), .i ((0 : Int)), .i ((0 : Int)), .r ([])]
noncomputable def xbo (office_Owner t delay : Int) (office_Lines ships list omissions proof : List (List Int)) (y4 : List U) : Option (Nat × List U) :=
 (bif decide (gi y4 2 < (↑(xar office_Owner t delay office_Lines (gr (xat office_Owner t delay office_Lines ships list omissions proof).snd 3) list).length : Int)) then xac (inR (gi y4 2) (xar office_Owner t delay office_Lines (gr (xat office_Owner t delay office_Lines ships list omissions proof).snd 3) list)) (xac (inR (gi y4 2) (xar office_Owner t delay office_Lines (gr (xat office_Owner t delay office_Lines ships list omissions proof).snd 3) list)) (xac ((xaM (xcn office_Owner t delay office_Lines ships list omissions proof y4) (xeo office_Owner t delay office_Lines ships list omissions proof y4))) ((bif !decide ((bif (xeT office_Owner t delay office_Lines ships list omissions proof y4).fst.beq 1 then gi (xeT office_Owner t delay office_Lines ships list omissions proof y4).snd 0 else (-1 : Int)) ≥ (0 : Int)) then some (1, []) else xac ((xaM (xcm office_Owner t delay office_Lines ships list omissions proof y4) (xen office_Owner t delay office_Lines ships list omissions proof y4))) ((bif decide ((bif (xeS office_Owner t delay office_Lines ships list omissions proof y4).fst.beq 1 then gi (xeS office_Owner t delay office_Lines ships list omissions proof y4).snd 0 else (-1 : Int)) ≥ (0 : Int)) then xac ((xaM (xcl office_Owner t delay office_Lines ships list omissions proof y4) (xem office_Owner t delay office_Lines ships list omissions proof y4))) ((bif decide ((bif (xeR office_Owner t delay office_Lines ships list omissions proof y4).fst.beq 1 then gi (xeR office_Owner t delay office_Lines ships list omissions proof y4).snd 0 else (-1 : Int)) ≥ (0 : Int)) then some (2, []) else xac (xbH 24 ((gr y4 3).length + [(xeQ office_Owner t delay office_Lines ships list omissions proof y4)].length)) (some (0, [.b (gb y4 0), .i (gi y4 1), .i (IntKind.i64.wrap (gi y4 2 + (1 : Int))), .r (gr y4 3 ++ [(xeQ office_Owner t delay office_Lines ships list omissions proof y4)])])))) else some (0, [.b (gb y4 0), .i (gi y4 1), .i (IntKind.i64.wrap (gi y4 2 + (1 : Int))), .r (gr y4 3)]))))))) else some (5, [.b (gb y4 0), .i (gi y4 1), .i (gi y4 2), .r (gr y4 3)]))
noncomputable def xbe (office_Owner t delay : Int) (office_Lines ships list omissions proof : List (List Int)) : Nat × List U := xaC (xbo office_Owner t delay office_Lines ships list omissions proof) (xep office_Owner t delay office_Lines ships list omissions proof)
noncomputable def xcQ (office_Owner t delay : Int) (office_Lines ships list omissions proof : List (List Int)) : Bool :=
 bif !xab office_Owner office_Lines || office_Owner != (0 : Int) || !xaz list || !xav t || decide (delay < (0 : Int)) || decide (delay > (100000 : Int)) then false
else
 bif (xat office_Owner t delay office_Lines ships list omissions proof).fst.beq 1 then false
 else
  bif !!decide ((bif (xcr office_Owner t delay office_Lines ships list omissions proof).fst.beq 1 then gi (xcr office_Owner t delay office_Lines ships list omissions proof).snd 0 else (-1 : Int)) ≥ (0 : Int)) then false
  else
   bif
     ((↑omissions.length : Int) != (↑proof.length : Int) || !bif (xdP office_Owner t delay office_Lines ships list omissions proof).fst.beq 1 then false else true) ||
      !bif (xeU office_Owner t delay office_Lines ships list omissions proof).fst.beq 1 then false else true then
    false
   else
    bif (xbe office_Owner t delay office_Lines ships list omissions proof).fst.beq 1 then false
    else bif (xbe office_Owner t delay office_Lines ships list omissions proof).fst.beq 2 then false else (↑(gr (xbe office_Owner t delay office_Lines ships list omissions proof).snd 3).length : Int) == (↑proof.length : Int)
noncomputable def xir (office_Owner t delay : Int) (office_Lines ships list omissions proof : List (List Int)) : Int :=
 bif ((↑omissions.length : Int) != (↑proof.length : Int) || !bif (xdP office_Owner t delay office_Lines ships list omissions proof).fst.beq 1 then false else true) || !bif (xeU office_Owner t delay office_Lines ships list omissions proof).fst.beq 1 then false else true then
 (0 : Int)
else bif (xbe office_Owner t delay office_Lines ships list omissions proof).fst.beq 1 then (0 : Int) else bif (xbe office_Owner t delay office_Lines ships list omissions proof).fst.beq 2 then (0 : Int) else (0 : Int)
noncomputable def xiq (office_Owner t delay : Int) (office_Lines ships list omissions proof : List (List Int)) : Int :=
 bif !!decide ((bif (xcr office_Owner t delay office_Lines ships list omissions proof).fst.beq 1 then gi (xcr office_Owner t delay office_Lines ships list omissions proof).snd 0 else (-1 : Int)) ≥ (0 : Int)) then (1 : Int) else (xir office_Owner t delay office_Lines ships list omissions proof)
noncomputable def xip (office_Owner t delay : Int) (office_Lines ships list omissions proof : List (List Int)) : Int :=
 bif !xab office_Owner office_Lines || office_Owner != (0 : Int) || !xaz list || !xav t || decide (delay < (0 : Int)) || decide (delay > (100000 : Int)) then
 (1 : Int)
else bif (xat office_Owner t delay office_Lines ships list omissions proof).fst.beq 1 then (1 : Int) else (xiq office_Owner t delay office_Lines ships list omissions proof)
noncomputable def xdq (office_Owner t delay : Int) (office_Lines ships list omissions proof : List (List Int)) : Int :=
 (xip office_Owner t delay office_Lines ships list omissions proof)
def xb9 (office_Owner t delay : Int) (office_Lines ships list omissions proof : List (List Int)) : Prop :=
 ((xaA office_Owner office_Lines) ∧ ((((!xab office_Owner office_Lines || office_Owner != (0 : Int)) = false) → (xbA list)) ∧ (((!xab office_Owner office_Lines || office_Owner != (0 : Int) || !xaz list || !xav t || decide (delay < (0 : Int)) || decide (delay > (100000 : Int))) = false) → (((xaM (xeu office_Owner t delay office_Lines ships list omissions proof) (xev office_Owner t delay office_Lines ships list omissions proof))) ∧ (((xat office_Owner t delay office_Lines ships list omissions proof).fst.beq 1 = false) → (((xaM (xes office_Owner t delay office_Lines ships list omissions proof) (xet office_Owner t delay office_Lines ships list omissions proof))) ∧ (((!!decide ((bif (xcr office_Owner t delay office_Lines ships list omissions proof).fst.beq 1 then gi (xcr office_Owner t delay office_Lines ships list omissions proof).snd 0 else (-1 : Int)) ≥ (0 : Int))) = false) → (((((↑omissions.length : Int) != (↑proof.length : Int)) = false) → ((xaM (xcp office_Owner t delay office_Lines ships list omissions proof) (xer office_Owner t delay office_Lines ships list omissions proof)))) ∧ (((((↑omissions.length : Int) != (↑proof.length : Int) || !bif (xdP office_Owner t delay office_Lines ships list omissions proof).fst.beq 1 then false else true) = false) → ((xaM (xco office_Owner t delay office_Lines ships list omissions proof) (xeq office_Owner t delay office_Lines ships list omissions proof)))) ∧ (((((↑omissions.length : Int) != (↑proof.length : Int) || !bif (xdP office_Owner t delay office_Lines ships list omissions proof).fst.beq 1 then false else true) || !bif (xeU office_Owner t delay office_Lines ships list omissions proof).fst.beq 1 then false else true) = false) → ((xcS office_Owner t delay office_Lines (gr (xat office_Owner t delay office_Lines ships list omissions proof).snd 3) list) ∧ ((xaM (xbo office_Owner t delay office_Lines ships list omissions proof) (xep office_Owner t delay office_Lines ships list omissions proof))))))))))))))
end Go.Proofs.YtikhnofbbcmpeaaGreat
set_option maxRecDepth 100000
set_option linter.unusedVariables false
namespace Go.Proofs.YtikhnofbbcmpeaaGreat
open Go Go.Sy
theorem xoi (office_Owner t delay : Int) (office_Lines ships list : List (List Int)) : xay Tryz.prog 3 (xa8 Tryz.prog K31 xdm 9 22 [.agg [.int .i64 office_Owner, .sl 0], .sl 1, .sl 2, .int .i64 t, .int .i64 delay] ⟨[⟨0, 3, false, .row 29 [.int .i64, .int .i64, .int .i64, .int .u64] office_Lines⟩, ⟨1, 3, false, .nst 24 [.c (.int .i64), .s 29 [.int .i64, .int .i64, .int .i64, .int .u64]] ships⟩, ⟨2, 3, false, .row 41 [.int .i64, .int .i64, .int .i64] list⟩], 3⟩) = some ⟨some (xcR office_Owner t delay office_Lines ships list), [], 1, [⟨3, 3, true, .row 52 [.int .i64, .int .i64] (xec office_Owner t delay office_Lines ships list)⟩], .tup [.sl 3, .int .i64 (xeb office_Owner t delay office_Lines ships list)]⟩ := by kernel_rfl
noncomputable def xjt : List U → Option Eff
 | [.i office_Owner, .i t, .i delay, .r office_Lines, .r ships, .r list] => some ⟨some (xcR office_Owner t delay office_Lines ships list), [], 1, [⟨3, 3, true, .row 52 [.int .i64, .int .i64] (xec office_Owner t delay office_Lines ships list)⟩], .tup [.sl 3, .int .i64 (xeb office_Owner t delay office_Lines ships list)]⟩
 | _ => Option.none
noncomputable def K32 : Con := ext Tryz.prog K31 22 [.agg [.int .i64 0, .sl 0], .sl 1, .sl 2, .int .i64 0, .int .i64 0] [⟨0, 0, false, .row 29 [.int .i64, .int .i64, .int .i64, .int .u64] []⟩, ⟨1, 0, false, .nst 24 [.c (.int .i64), .s 29 [.int .i64, .int .i64, .int .i64, .int .u64]] []⟩, ⟨2, 0, false, .row 41 [.int .i64, .int .i64, .int .i64] []⟩] xjt
theorem xAF : xbv Tryz.prog K32 := xaB xaI xAG (n := 9) rfl rfl fun us x h => by
 unfold xjt at h
 split at h
 ·cases h; exact ⟨some (xcR _ _ _ _ _ _), xoi _ _ _ _ _ _, fun h => h⟩
 ·cases h
theorem xlw (office_Owner t delay : Int) (office_Lines ships list : List (List Int)) : xay Tryz.prog 3 (xa8 Tryz.prog K32 xdm 9 24 [.agg [.int .i64 office_Owner, .sl 0], .sl 1, .sl 2, .int .i64 t, .int .i64 delay] ⟨[⟨0, 3, false, .row 29 [.int .i64, .int .i64, .int .i64, .int .u64] office_Lines⟩, ⟨1, 3, false, .nst 24 [.c (.int .i64), .s 29 [.int .i64, .int .i64, .int .i64, .int .u64]] ships⟩, ⟨2, 3, false, .row 41 [.int .i64, .int .i64, .int .i64] list⟩], 3⟩) = some ⟨some (xbT office_Owner t delay office_Lines ships list), [], 2, [⟨3, 3, true, .row 80 [.int .i64, .int .i64, .int .i64] (xdc office_Owner t delay office_Lines ships list)⟩, ⟨4, 3, true, .row 52 [.int .i64, .int .i64] (xdb office_Owner t delay office_Lines ships list)⟩], .tup [.sl 3, .sl 4, .int .i64 (xda office_Owner t delay office_Lines ships list)]⟩ := by kernel_rfl
noncomputable def xhb : List U → Option Eff
 | [.i office_Owner, .i t, .i delay, .r office_Lines, .r ships, .r list] => some ⟨some (xbT office_Owner t delay office_Lines ships list), [], 2, [⟨3, 3, true, .row 80 [.int .i64, .int .i64, .int .i64] (xdc office_Owner t delay office_Lines ships list)⟩, ⟨4, 3, true, .row 52 [.int .i64, .int .i64] (xdb office_Owner t delay office_Lines ships list)⟩], .tup [.sl 3, .sl 4, .int .i64 (xda office_Owner t delay office_Lines ships list)]⟩
 | _ => Option.none
noncomputable def K33 : Con := ext Tryz.prog K32 24 [.agg [.int .i64 0, .sl 0], .sl 1, .sl 2, .int .i64 0, .int .i64 0] [⟨0, 0, false, .row 29 [.int .i64, .int .i64, .int .i64, .int .u64] []⟩, ⟨1, 0, false, .nst 24 [.c (.int .i64), .s 29 [.int .i64, .int .i64, .int .i64, .int .u64]] []⟩, ⟨2, 0, false, .row 41 [.int .i64, .int .i64, .int .i64] []⟩] xhb
theorem xAE : xbv Tryz.prog K33 := xaB xaI xAF (n := 9) rfl rfl fun us x h => by
 unfold xhb at h
 split at h
 ·cases h; exact ⟨some (xbT _ _ _ _ _ _), xlw _ _ _ _ _ _, fun h => h⟩
 ·cases h
theorem xmk (office_Owner t delay : Int) (office_Lines ships list omissions proof : List (List Int)) : xay Tryz.prog 5 (xa8 Tryz.prog K33 xdm 9 28 [.agg [.int .i64 office_Owner, .sl 0], .sl 1, .sl 2, .int .i64 t, .int .i64 delay, .sl 3, .sl 4] ⟨[⟨0, 5, false, .row 29 [.int .i64, .int .i64, .int .i64, .int .u64] office_Lines⟩, ⟨1, 5, false, .nst 24 [.c (.int .i64), .s 29 [.int .i64, .int .i64, .int .i64, .int .u64]] ships⟩, ⟨2, 5, false, .row 41 [.int .i64, .int .i64, .int .i64] list⟩, ⟨3, 5, false, .row 80 [.int .i64, .int .i64, .int .i64] omissions⟩, ⟨4, 5, false, .row 52 [.int .i64, .int .i64] proof⟩], 5⟩) = some ⟨some (xb9 office_Owner t delay office_Lines ships list omissions proof), [], 0, [], .tup [.bool (xcQ office_Owner t delay office_Lines ships list omissions proof), .int .i64 (xdq office_Owner t delay office_Lines ships list omissions proof)]⟩ := by kernel_rfl
noncomputable def xht : List U → Option Eff
 | [.i office_Owner, .i t, .i delay, .r office_Lines, .r ships, .r list, .r omissions, .r proof] => some ⟨some (xb9 office_Owner t delay office_Lines ships list omissions proof), [], 0, [], .tup [.bool (xcQ office_Owner t delay office_Lines ships list omissions proof), .int .i64 (xdq office_Owner t delay office_Lines ships list omissions proof)]⟩
 | _ => Option.none
noncomputable def K34 : Con := ext Tryz.prog K33 28 [.agg [.int .i64 0, .sl 0], .sl 1, .sl 2, .int .i64 0, .int .i64 0, .sl 3, .sl 4] [⟨0, 0, false, .row 29 [.int .i64, .int .i64, .int .i64, .int .u64] []⟩, ⟨1, 0, false, .nst 24 [.c (.int .i64), .s 29 [.int .i64, .int .i64, .int .i64, .int .u64]] []⟩, ⟨2, 0, false, .row 41 [.int .i64, .int .i64, .int .i64] []⟩, ⟨3, 0, false, .row 80 [.int .i64, .int .i64, .int .i64] []⟩, ⟨4, 0, false, .row 52 [.int .i64, .int .i64] []⟩] xht
theorem xAD : xbv Tryz.prog K34 := xaB xaI xAE (n := 9) rfl rfl fun us x h => by
 unfold xht at h
 split at h
 ·cases h; exact ⟨some (xb9 _ _ _ _ _ _ _ _), xmk _ _ _ _ _ _ _ _, fun h => h⟩
 ·cases h
end Go.Proofs.YtikhnofbbcmpeaaGreat
set_option maxRecDepth 100000
set_option linter.unusedVariables false
namespace Go.Proofs.YtikhnofbbcmpeaaGreat
open Go Go.Sy
noncomputable def xfo (a b : List (List Int)) : List U :=
 [.b (false), .i ((0 : Int))]
noncomputable def xdr (a b : List (List Int)) (y0 : List U) : Option (Nat × List U) :=
 (bif decide (gi y0 1 < (↑a.length : Int)) then xac (inR (gi y0 1) a) (xac (inR (gi y0 1) a) (xac (inR (gi y0 1) b) (xac (inR (gi y0 1) b) ((bif (a.getD (gi y0 1).toNat []).getD 0 (0 : Int) != (b.getD (gi y0 1).toNat []).getD 0 (0 : Int) then some (1, []) else some (0, [.b (gb y0 0), .i (IntKind.i64.wrap (gi y0 1 + (1 : Int)))])))))) else some (3, [.b (gb y0 0), .i (gi y0 1)]))
noncomputable def xrc (a b : List (List Int)) : Nat × List U := xaC (xdr a b) (xfo a b)
noncomputable def xdV (a b : List (List Int)) : Bool :=
 bif (↑a.length : Int) != (↑b.length : Int) then false else bif (xrc a b).fst.beq 1 then false else true
def xdA (a b : List (List Int)) : Prop :=
 ((((↑a.length : Int) != (↑b.length : Int)) = false) → ((xaM (xdr a b) (xfo a b))))
noncomputable def xef (a b : List (List Int)) : List U :=
 [.b (false), .i ((0 : Int))]
noncomputable def xci (a b : List (List Int)) (y0 : List U) : Option (Nat × List U) :=
 (bif decide (gi y0 1 < (↑a.length : Int)) then xac (inR (gi y0 1) a) (xac (inR (gi y0 1) a) (xac (inR (gi y0 1) b) (xac (inR (gi y0 1) b) ((bif !((a.getD (gi y0 1).toNat []).getD 0 (0 : Int) == (b.getD (gi y0 1).toNat []).getD 0 (0 : Int) &&
  ((a.getD (gi y0 1).toNat []).getD 1 (0 : Int) == (b.getD (gi y0 1).toNat []).getD 1 (0 : Int) && true)) then some (1, []) else some (0, [.b (gb y0 0), .i (IntKind.i64.wrap (gi y0 1 + (1 : Int)))])))))) else some (3, [.b (gb y0 0), .i (gi y0 1)]))
noncomputable def xmR (a b : List (List Int)) : Nat × List U := xaC (xci a b) (xef a b)
noncomputable def xbO (a b : List (List Int)) : Bool :=
 bif (↑a.length : Int) != (↑b.length : Int) then false else bif (xmR a b).fst.beq 1 then false else true
def xb1 (a b : List (List Int)) : Prop :=
 ((((↑a.length : Int) != (↑b.length : Int)) = false) → ((xaM (xci a b) (xef a b))))
noncomputable def xde (a b : List (List Int)) : List U :=
 [.b (false), .i ((0 : Int))]
noncomputable def xby (a b : List (List Int)) (y0 : List U) : Option (Nat × List U) :=
 (bif decide (gi y0 1 < (↑a.length : Int)) then xac (inR (gi y0 1) a) (xac (inR (gi y0 1) a) (xac (inR (gi y0 1) b) (xac (inR (gi y0 1) b) ((bif !((a.getD (gi y0 1).toNat []).getD 0 (0 : Int) == (b.getD (gi y0 1).toNat []).getD 0 (0 : Int) &&
  ((a.getD (gi y0 1).toNat []).getD 1 (0 : Int) == (b.getD (gi y0 1).toNat []).getD 1 (0 : Int) &&
   ((a.getD (gi y0 1).toNat []).getD 2 (0 : Int) == (b.getD (gi y0 1).toNat []).getD 2 (0 : Int) && true))) then some (1, []) else some (0, [.b (gb y0 0), .i (IntKind.i64.wrap (gi y0 1 + (1 : Int)))])))))) else some (3, [.b (gb y0 0), .i (gi y0 1)]))
noncomputable def xjF (a b : List (List Int)) : Nat × List U := xaC (xby a b) (xde a b)
noncomputable def xbU (a b : List (List Int)) : Bool :=
 bif (↑a.length : Int) != (↑b.length : Int) then false else bif (xjF a b).fst.beq 1 then false else true
def xbC (a b : List (List Int)) : Prop :=
 ((((↑a.length : Int) != (↑b.length : Int)) = false) → ((xaM (xby a b) (xde a b))))
noncomputable def xnO (owner : Int) (lines : List (List Int)) (y0 : List U) : Int :=
 xfB (gi y0 1) ((lines.getD (gi y0 0).toNat []).getD 0 (0 : Int)) ((lines.getD (gi y0 0).toNat []).getD 1 (0 : Int))
 ((lines.getD (gi y0 0).toNat []).getD 2 (0 : Int)) (gr y0 2)
noncomputable def xnN (owner : Int) (lines : List (List Int)) (y0 : List U) : Int :=
 xfC (gi y0 1) ((lines.getD (gi y0 0).toNat []).getD 0 (0 : Int)) ((lines.getD (gi y0 0).toNat []).getD 1 (0 : Int))
 ((lines.getD (gi y0 0).toNat []).getD 2 (0 : Int)) (gr y0 2)
noncomputable def xnM (owner : Int) (lines : List (List Int)) (y0 : List U) : List (List Int) :=
 xfD (gi y0 1) ((lines.getD (gi y0 0).toNat []).getD 0 (0 : Int)) ((lines.getD (gi y0 0).toNat []).getD 1 (0 : Int))
 ((lines.getD (gi y0 0).toNat []).getD 2 (0 : Int)) (gr y0 2)
noncomputable def xid (owner : Int) (lines : List (List Int)) : List U :=
 [.i ((0 : Int)), .i (owner), .r ([])]
noncomputable def xc7 (owner : Int) (lines : List (List Int)) (y0 : List U) : Option (Nat × List U) :=
 (bif decide (gi y0 0 < (↑lines.length : Int)) then xac (inR (gi y0 0) lines) (xac (inR (gi y0 0) lines) (xac (inR (gi y0 0) lines) (xac (inR (gi y0 0) lines) (xac (inR (gi y0 0) lines) (xac (inR (gi y0 0) lines) (xac (inR (gi y0 0) lines) (xac (inR (gi y0 0) lines) (xac (inR (gi y0 0) lines) (xac (xeL (gi y0 1) ((lines.getD (gi y0 0).toNat []).getD 0 (0 : Int)) ((lines.getD (gi y0 0).toNat []).getD 1 (0 : Int))
 ((lines.getD (gi y0 0).toNat []).getD 2 (0 : Int)) (gr y0 2)) ((bif (xnO owner lines y0) != (0 : Int) then some (1, [.i (gi y0 1), .r (gr y0 2)]) else some (0, [.i (IntKind.i64.wrap (gi y0 0 + (1 : Int))), .i ((xnN owner lines y0)), .r ((xnM owner lines y0))])))))))))))) else some (3, [.i (gi y0 0), .i (gi y0 1), .r (gr y0 2)]))
noncomputable def xgl (owner : Int) (lines : List (List Int)) : Nat × List U := xaC (xc7 owner lines) (xid owner lines)
noncomputable def xae (owner : Int) (lines : List (List Int)) : List (List Int) :=
 bif (xgl owner lines).fst.beq 1 then [] else gr (xgl owner lines).snd 2
noncomputable def xad (owner : Int) (lines : List (List Int)) : Int :=
 bif (xgl owner lines).fst.beq 1 then (0 : Int) else gi (xgl owner lines).snd 1
def xbP (owner : Int) (lines : List (List Int)) : Prop :=
 ((xaM (xc7 owner lines) (xid owner lines)))
noncomputable def xah  : List (List Int) :=
 [[(5 : Int), (4 : Int), (0 : Int)], [(20 : Int), (5 : Int), (0 : Int)], [(40 : Int), (2 : Int), (9 : Int)]]
noncomputable def xaD  : List Int :=
 [xad (1 : Int) [[(12 : Int), (3 : Int), (7 : Int)]], encL (xae (1 : Int) [[(12 : Int), (3 : Int), (7 : Int)]])]
noncomputable def xaJ  : List Int :=
 [(xaD), [xad (2 : Int) [], encL (xae (2 : Int) [])], [xad (3 : Int) ((xah)), encL (xae (3 : Int) ((xah)))]].getD
 (Int.toNat (0 : Int)) []
noncomputable def xaX  : List (List Int) :=
 [[(3 : Int), (7 : Int), (10 : Int)], [(2 : Int), (9 : Int), (30 : Int)], [(3 : Int), (9 : Int), (30 : Int)]]
noncomputable def xbs  : List Int :=
 [(xaD), [xad (2 : Int) [], encL (xae (2 : Int) [])], [xad (3 : Int) ((xah)), encL (xae (3 : Int) ((xah)))]].getD
 (Int.toNat (2 : Int)) []
noncomputable def xc0  : List (List Int) :=
 xdc (xad (0 : Int) [[(10 : Int), (1 : Int), (7 : Int)]]) (50 : Int) (5 : Int) (xae (0 : Int) [[(10 : Int), (1 : Int), (7 : Int)]])
 [(xaD), [xad (2 : Int) [], encL (xae (2 : Int) [])], [xad (3 : Int) ((xah)), encL (xae (3 : Int) ((xah)))]]
 ([(1 : Int), (7 : Int), (10 : Int)] :: [(2 : Int), (7 : Int), (10 : Int)] :: (xaX))
noncomputable def xcu  : List (List Int) :=
 xdb (xad (0 : Int) [[(10 : Int), (1 : Int), (7 : Int)]]) (50 : Int) (5 : Int) (xae (0 : Int) [[(10 : Int), (1 : Int), (7 : Int)]])
 [(xaD), [xad (2 : Int) [], encL (xae (2 : Int) [])], [xad (3 : Int) ((xah)), encL (xae (3 : Int) ((xah)))]]
 ([(1 : Int), (7 : Int), (10 : Int)] :: [(2 : Int), (7 : Int), (10 : Int)] :: (xaX))
noncomputable def xgJ  : Int :=
 xcK (xad (0 : Int) [[(10 : Int), (1 : Int), (7 : Int)]]) (((xaJ)).getD 0 (0 : Int)) (10 : Int) (xae (0 : Int) [[(10 : Int), (1 : Int), (7 : Int)]])
 (decL (((xaJ)).getD 1 (0 : Int))) ([(1 : Int), (7 : Int), (10 : Int)] :: [(2 : Int), (7 : Int), (10 : Int)] :: (xaX))
noncomputable def xgI  : Int :=
 xcK (xad (0 : Int) [[(10 : Int), (1 : Int), (7 : Int)]]) (((xbs)).getD 0 (0 : Int)) (10 : Int) (xae (0 : Int) [[(10 : Int), (1 : Int), (7 : Int)]])
 (decL (((xbs)).getD 1 (0 : Int))) ([(1 : Int), (7 : Int), (10 : Int)] :: [(2 : Int), (7 : Int), (10 : Int)] :: (xaX))
noncomputable def xgH  : Int :=
 xeb (xad (0 : Int) [[(10 : Int), (1 : Int), (7 : Int)]]) (50 : Int) (5 : Int) (xae (0 : Int) [[(10 : Int), (1 : Int), (7 : Int)]])
 [(xaD), [xad (2 : Int) [], encL (xae (2 : Int) [])], [xad (3 : Int) ((xah)), encL (xae (3 : Int) ((xah)))]]
 ([(1 : Int), (7 : Int), (10 : Int)] :: [(2 : Int), (7 : Int), (10 : Int)] :: (xaX))
noncomputable def xgb  : Int :=
 xda (xad (0 : Int) [[(10 : Int), (1 : Int), (7 : Int)]]) (50 : Int) (5 : Int) (xae (0 : Int) [[(10 : Int), (1 : Int), (7 : Int)]])
 [(xaD), [xad (2 : Int) [], encL (xae (2 : Int) [])], [xad (3 : Int) ((xah)), encL (xae (3 : Int) ((xah)))]]
 ([(1 : Int), (7 : Int), (10 : Int)] :: [(2 : Int), (7 : Int), (10 : Int)] :: (xaX))
noncomputable def xga  : Int :=
 xdq (xad (0 : Int) [[(10 : Int), (1 : Int), (7 : Int)]]) (50 : Int) (5 : Int) (xae (0 : Int) [[(10 : Int), (1 : Int), (7 : Int)]])
 [(xaD), [xad (2 : Int) [], encL (xae (2 : Int) [])], [xad (3 : Int) ((xah)), encL (xae (3 : Int) ((xah)))]]
 ([(1 : Int), (7 : Int), (10 : Int)] :: [(2 : Int), (7 : Int), (10 : Int)] :: (xaX)) ((xc0)) ((xcu))
noncomputable def xe3  : List (List Int) :=
 xcL (xad (0 : Int) [[(10 : Int), (1 : Int), (7 : Int)]]) (((xaJ)).getD 0 (0 : Int)) (10 : Int) (xae (0 : Int) [[(10 : Int), (1 : Int), (7 : Int)]])
 (decL (((xaJ)).getD 1 (0 : Int))) ([(1 : Int), (7 : Int), (10 : Int)] :: [(2 : Int), (7 : Int), (10 : Int)] :: (xaX))
noncomputable def xf9  : List (List Int) :=
 xcL (xad (0 : Int) [[(10 : Int), (1 : Int), (7 : Int)]]) (((xbs)).getD 0 (0 : Int)) (10 : Int) (xae (0 : Int) [[(10 : Int), (1 : Int), (7 : Int)]])
 (decL (((xbs)).getD 1 (0 : Int))) ([(1 : Int), (7 : Int), (10 : Int)] :: [(2 : Int), (7 : Int), (10 : Int)] :: (xaX))
noncomputable def xe2  : List (List Int) :=
 xec (xad (0 : Int) [[(10 : Int), (1 : Int), (7 : Int)]]) (50 : Int) (5 : Int) (xae (0 : Int) [[(10 : Int), (1 : Int), (7 : Int)]])
 [(xaD), [xad (2 : Int) [], encL (xae (2 : Int) [])], [xad (3 : Int) ((xah)), encL (xae (3 : Int) ((xah)))]]
 ([(1 : Int), (7 : Int), (10 : Int)] :: [(2 : Int), (7 : Int), (10 : Int)] :: (xaX))
noncomputable def xhL  : List (List Int) :=
 [[(2 : Int), (7 : Int)], [(2 : Int), (9 : Int)], [(3 : Int), (7 : Int)], [(3 : Int), (9 : Int)]]
noncomputable def xhK  : List (List Int) :=
 [[(1 : Int), (0 : Int), (9 : Int)], [(2 : Int), (2 : Int), (0 : Int)], [(2 : Int), (3 : Int), (0 : Int)]]
noncomputable def xeF  : Bool :=
 bif
  ((xgJ) == (0 : Int) && (xgI) == (0 : Int) && (xgH) == (0 : Int) && (xgb) == (0 : Int) && (xga) == (0 : Int) &&
     xdf (((xaJ)).getD 0 (0 : Int)) (12 : Int) (decL (((xaJ)).getD 1 (0 : Int))) == (0 : Int) &&
    xcQ (xad (0 : Int) [[(10 : Int), (1 : Int), (7 : Int)]]) (50 : Int) (5 : Int) (xae (0 : Int) [[(10 : Int), (1 : Int), (7 : Int)]])
     [(xaD), [xad (2 : Int) [], encL (xae (2 : Int) [])], [xad (3 : Int) ((xah)), encL (xae (3 : Int) ((xah)))]]
     ([(1 : Int), (7 : Int), (10 : Int)] :: [(2 : Int), (7 : Int), (10 : Int)] :: (xaX)) ((xc0)) ((xcu))) ==
   true then
 bif (xdV ((xe3)) [[(7 : Int)]] && (↑((xf9)).length : Int) == (0 : Int)) == true then
  bif xdV (xcI (((xaJ)).getD 0 (0 : Int)) (12 : Int) (decL (((xaJ)).getD 1 (0 : Int)))) [[(7 : Int)]] == true then
   bif xbO ((xe2)) ((xhL)) == true then
    bif xbU ((xc0)) ((xhK)) == true then
     bif xbO ((xcu)) [[(2 : Int), (7 : Int)], [(3 : Int), (7 : Int)], [(3 : Int), (9 : Int)]] == true then
      xab (((xbs)).getD 0 (0 : Int)) (decL (((xbs)).getD 1 (0 : Int)))
     else false
    else false
   else false
  else false
 else false
else false
def xd9  : Prop :=
 (((xbP (1 : Int) [[(12 : Int), (3 : Int), (7 : Int)]]) ∧ ((xbP (2 : Int) []) ∧ ((xbP (3 : Int) ((xah))) ∧ (xbP (0 : Int) [[(10 : Int), (1 : Int), (7 : Int)]])))) ∧ ((inR (0 : Int) [(xaD), [xad (2 : Int) [], encL (xae (2 : Int) [])], [xad (3 : Int) ((xah)), encL (xae (3 : Int) ((xah)))]]) ∧ ((inR (0 : Int) [(xaD), [xad (2 : Int) [], encL (xae (2 : Int) [])], [xad (3 : Int) ((xah)), encL (xae (3 : Int) ((xah)))]]) ∧ ((xbD (xad (0 : Int) [[(10 : Int), (1 : Int), (7 : Int)]]) (((xaJ)).getD 0 (0 : Int)) (10 : Int) (xae (0 : Int) [[(10 : Int), (1 : Int), (7 : Int)]])
 (decL (((xaJ)).getD 1 (0 : Int))) ([(1 : Int), (7 : Int), (10 : Int)] :: [(2 : Int), (7 : Int), (10 : Int)] :: (xaX))) ∧ ((inR (2 : Int) [(xaD), [xad (2 : Int) [], encL (xae (2 : Int) [])], [xad (3 : Int) ((xah)), encL (xae (3 : Int) ((xah)))]]) ∧ ((inR (2 : Int) [(xaD), [xad (2 : Int) [], encL (xae (2 : Int) [])], [xad (3 : Int) ((xah)), encL (xae (3 : Int) ((xah)))]]) ∧ ((xbD (xad (0 : Int) [[(10 : Int), (1 : Int), (7 : Int)]]) (((xbs)).getD 0 (0 : Int)) (10 : Int) (xae (0 : Int) [[(10 : Int), (1 : Int), (7 : Int)]])
 (decL (((xbs)).getD 1 (0 : Int))) ([(1 : Int), (7 : Int), (10 : Int)] :: [(2 : Int), (7 : Int), (10 : Int)] :: (xaX))) ∧ ((xcR (xad (0 : Int) [[(10 : Int), (1 : Int), (7 : Int)]]) (50 : Int) (5 : Int) (xae (0 : Int) [[(10 : Int), (1 : Int), (7 : Int)]])
 [(xaD), [xad (2 : Int) [], encL (xae (2 : Int) [])], [xad (3 : Int) ((xah)), encL (xae (3 : Int) ((xah)))]]
 ([(1 : Int), (7 : Int), (10 : Int)] :: [(2 : Int), (7 : Int), (10 : Int)] :: (xaX))) ∧ ((xbT (xad (0 : Int) [[(10 : Int), (1 : Int), (7 : Int)]]) (50 : Int) (5 : Int) (xae (0 : Int) [[(10 : Int), (1 : Int), (7 : Int)]])
 [(xaD), [xad (2 : Int) [], encL (xae (2 : Int) [])], [xad (3 : Int) ((xah)), encL (xae (3 : Int) ((xah)))]]
 ([(1 : Int), (7 : Int), (10 : Int)] :: [(2 : Int), (7 : Int), (10 : Int)] :: (xaX))) ∧ ((xb9 (xad (0 : Int) [[(10 : Int), (1 : Int), (7 : Int)]]) (50 : Int) (5 : Int) (xae (0 : Int) [[(10 : Int), (1 : Int), (7 : Int)]])
 [(xaD), [xad (2 : Int) [], encL (xae (2 : Int) [])], [xad (3 : Int) ((xah)), encL (xae (3 : Int) ((xah)))]]
 ([(1 : Int), (7 : Int), (10 : Int)] :: [(2 : Int), (7 : Int), (10 : Int)] :: (xaX)) ((xc0)) ((xcu))) ∧ ((inR (0 : Int) [(xaD), [xad (2 : Int) [], encL (xae (2 : Int) [])], [xad (3 : Int) ((xah)), encL (xae (3 : Int) ((xah)))]]) ∧ ((inR (0 : Int) [(xaD), [xad (2 : Int) [], encL (xae (2 : Int) [])], [xad (3 : Int) ((xah)), encL (xae (3 : Int) ((xah)))]]) ∧ ((xcs (((xaJ)).getD 0 (0 : Int)) (12 : Int) (decL (((xaJ)).getD 1 (0 : Int)))) ∧ (((((xgJ) == (0 : Int) && (xgI) == (0 : Int) && (xgH) == (0 : Int) && (xgb) == (0 : Int) && (xga) == (0 : Int) &&
    xdf (((xaJ)).getD 0 (0 : Int)) (12 : Int) (decL (((xaJ)).getD 1 (0 : Int))) == (0 : Int) &&
   xcQ (xad (0 : Int) [[(10 : Int), (1 : Int), (7 : Int)]]) (50 : Int) (5 : Int) (xae (0 : Int) [[(10 : Int), (1 : Int), (7 : Int)]])
    [(xaD), [xad (2 : Int) [], encL (xae (2 : Int) [])], [xad (3 : Int) ((xah)), encL (xae (3 : Int) ((xah)))]]
    ([(1 : Int), (7 : Int), (10 : Int)] :: [(2 : Int), (7 : Int), (10 : Int)] :: (xaX)) ((xc0)) ((xcu))) ==
  true) =
 true) → ((xdA ((xe3)) [[(7 : Int)]]) ∧ ((((xdV ((xe3)) [[(7 : Int)]] && (↑((xf9)).length : Int) == (0 : Int)) == true) = true) → ((xdA (xcI (((xaJ)).getD 0 (0 : Int)) (12 : Int) (decL (((xaJ)).getD 1 (0 : Int)))) [[(7 : Int)]]) ∧ (((xdV (xcI (((xaJ)).getD 0 (0 : Int)) (12 : Int) (decL (((xaJ)).getD 1 (0 : Int)))) [[(7 : Int)]] == true) = true) → ((xb1 ((xe2)) ((xhL))) ∧ (((xbO ((xe2)) ((xhL)) == true) = true) → ((xbC ((xc0)) ((xhK))) ∧ (((xbU ((xc0)) ((xhK)) == true) = true) → ((xb1 ((xcu)) [[(2 : Int), (7 : Int)], [(3 : Int), (7 : Int)], [(3 : Int), (9 : Int)]]) ∧ (((xbO ((xcu)) [[(2 : Int), (7 : Int)], [(3 : Int), (7 : Int)], [(3 : Int), (9 : Int)]] = true) → (inR (2 : Int) [(xaD), [xad (2 : Int) [], encL (xae (2 : Int) [])], [xad (3 : Int) ((xah)), encL (xae (3 : Int) ((xah)))]])) ∧ (((xbO ((xcu)) [[(2 : Int), (7 : Int)], [(3 : Int), (7 : Int)], [(3 : Int), (9 : Int)]] == true) = true) → ((inR (2 : Int) [(xaD), [xad (2 : Int) [], encL (xae (2 : Int) [])], [xad (3 : Int) ((xah)), encL (xae (3 : Int) ((xah)))]]) ∧ (xaA (((xbs)).getD 0 (0 : Int)) (decL (((xbs)).getD 1 (0 : Int))))))))))))))))))))))))))))))
end Go.Proofs.YtikhnofbbcmpeaaGreat
set_option maxRecDepth 100000
set_option linter.unusedVariables false
namespace Go.Proofs.YtikhnofbbcmpeaaGreat
open Go Go.Sy
theorem xpW (a b : List (List Int)) : xay Tryz.prog 2 (xa8 Tryz.prog K34 xdm 9 37 [.sl 0, .sl 1] ⟨[⟨0, 2, false, .row 3 [.int .i64] a⟩, ⟨1, 2, false, .row 3 [.int .i64] b⟩], 2⟩) = some ⟨some (xdA a b), [], 0, [], .bool (xdV a b)⟩ := by kernel_rfl
noncomputable def xkO : List U → Option Eff
 | [.r a, .r b] => some ⟨some (xdA a b), [], 0, [], .bool (xdV a b)⟩
 | _ => Option.none
noncomputable def K35 : Con := ext Tryz.prog K34 37 [.sl 0, .sl 1] [⟨0, 0, false, .row 3 [.int .i64] []⟩, ⟨1, 0, false, .row 3 [.int .i64] []⟩] xkO
theorem xAC : xbv Tryz.prog K35 := xaB xaI xAD (n := 9) rfl rfl fun us x h => by
 unfold xkO at h
 split at h
 ·cases h; exact ⟨some (xdA _ _), xpW _ _, fun h => h⟩
 ·cases h
theorem xlW (a b : List (List Int)) : xay Tryz.prog 2 (xa8 Tryz.prog K35 xdm 9 30 [.sl 0, .sl 1] ⟨[⟨0, 2, false, .row 52 [.int .i64, .int .i64] a⟩, ⟨1, 2, false, .row 52 [.int .i64, .int .i64] b⟩], 2⟩) = some ⟨some (xb1 a b), [], 0, [], .bool (xbO a b)⟩ := by kernel_rfl
noncomputable def xhq : List U → Option Eff
 | [.r a, .r b] => some ⟨some (xb1 a b), [], 0, [], .bool (xbO a b)⟩
 | _ => Option.none
noncomputable def K36 : Con := ext Tryz.prog K35 30 [.sl 0, .sl 1] [⟨0, 0, false, .row 52 [.int .i64, .int .i64] []⟩, ⟨1, 0, false, .row 52 [.int .i64, .int .i64] []⟩] xhq
theorem xAB : xbv Tryz.prog K36 := xaB xaI xAC (n := 9) rfl rfl fun us x h => by
 unfold xhq at h
 split at h
 ·cases h; exact ⟨some (xb1 _ _), xlW _ _, fun h => h⟩
 ·cases h
theorem xiN (a b : List (List Int)) : xay Tryz.prog 2 (xa8 Tryz.prog K36 xdm 9 41 [.sl 0, .sl 1] ⟨[⟨0, 2, false, .row 80 [.int .i64, .int .i64, .int .i64] a⟩, ⟨1, 2, false, .row 80 [.int .i64, .int .i64, .int .i64] b⟩], 2⟩) = some ⟨some (xbC a b), [], 0, [], .bool (xbU a b)⟩ := by kernel_rfl
noncomputable def xfn : List U → Option Eff
 | [.r a, .r b] => some ⟨some (xbC a b), [], 0, [], .bool (xbU a b)⟩
 | _ => Option.none
noncomputable def K37 : Con := ext Tryz.prog K36 41 [.sl 0, .sl 1] [⟨0, 0, false, .row 80 [.int .i64, .int .i64, .int .i64] []⟩, ⟨1, 0, false, .row 80 [.int .i64, .int .i64, .int .i64] []⟩] xfn
theorem xAA : xbv Tryz.prog K37 := xaB xaI xAB (n := 9) rfl rfl fun us x h => by
 unfold xfn at h
 split at h
 ·cases h; exact ⟨some (xbC _ _), xiN _ _, fun h => h⟩
 ·cases h
theorem xrt (owner : Int) (lines : List (List Int)) : xay Tryz.prog 1 (xa8 Tryz.prog K37 xdm 9 86 [.int .i64 owner, .sl 0] ⟨[⟨0, 1, false, .row 127 [.int .i64, .int .i64, .int .i64] lines⟩], 1⟩) = some ⟨some (xbP owner lines), [], 1, [⟨1, 1, true, .row 29 [.int .i64, .int .i64, .int .i64, .int .u64] (xae owner lines)⟩], .agg [.int .i64 (xad owner lines), .sl 1]⟩ := by kernel_rfl
noncomputable def xmb : List U → Option Eff
 | [.i owner, .r lines] => some ⟨some (xbP owner lines), [], 1, [⟨1, 1, true, .row 29 [.int .i64, .int .i64, .int .i64, .int .u64] (xae owner lines)⟩], .agg [.int .i64 (xad owner lines), .sl 1]⟩
 | _ => Option.none
noncomputable def K38 : Con := ext Tryz.prog K37 86 [.int .i64 0, .sl 0] [⟨0, 0, false, .row 127 [.int .i64, .int .i64, .int .i64] []⟩] xmb
theorem xAz : xbv Tryz.prog K38 := xaB xaI xAA (n := 9) rfl rfl fun us x h => by
 unfold xmb at h
 split at h
 ·cases h; exact ⟨some (xbP _ _), xrt _ _, fun h => h⟩
 ·cases h
theorem xpZ  : xay Tryz.prog 0 (xa8 Tryz.prog K38 xdm 9 12 [] ⟨[], 0⟩) = some ⟨some (xd9), [], 0, [], .bool (xeF)⟩ := by kernel_rfl
noncomputable def xkQ : List U → Option Eff
 | [] => some ⟨some (xd9), [], 0, [], .bool (xeF)⟩
 | _ => Option.none
noncomputable def K39 : Con := ext Tryz.prog K38 12 [] [] xkQ
theorem xAy : xbv Tryz.prog K39 := xaB xaI xAz (n := 9) rfl rfl fun us x h => by
 unfold xkQ at h
 split at h
 ·cases h; exact ⟨some (xd9), xpZ, fun h => h⟩
 ·cases h
end Go.Proofs.YtikhnofbbcmpeaaGreat
set_option maxRecDepth 100000
set_option linter.unusedVariables false
namespace Go.Proofs.YtikhnofbbcmpeaaGreat
open Go Go.Sy
noncomputable def xh4 (l_Owner time : Int) (l_Lines : List (List Int)) : List U :=
 [.b (false), .i ((0 : Int))]
noncomputable def xh3 (l_Owner time : Int) (l_Lines : List (List Int)) (y0 : List U) : Option (Nat × List U) :=
 (bif decide (gi y0 1 < (↑l_Lines.length : Int)) then xac (inR (gi y0 1) l_Lines) (xac (inR (gi y0 1) l_Lines) (xac (inR (gi y0 1) l_Lines) (xac ((decide ((l_Lines.getD (gi y0 1).toNat []).getD 0 (0 : Int) ≤ time) = true) → (inR (gi y0 1) l_Lines)) (xac ((decide ((l_Lines.getD (gi y0 1).toNat []).getD 0 (0 : Int) ≤ time) = true) → (inR (gi y0 1) l_Lines)) (xac ((decide ((l_Lines.getD (gi y0 1).toNat []).getD 0 (0 : Int) ≤ time) = true) → (inR (gi y0 1) l_Lines)) (xac ((decide ((l_Lines.getD (gi y0 1).toNat []).getD 0 (0 : Int) ≤ time) = true) → ((((l_Lines.getD (gi y0 1).toNat []).getD 1 (0 : Int) == (4 : Int)) = false) → (inR (gi y0 1) l_Lines))) (xac ((decide ((l_Lines.getD (gi y0 1).toNat []).getD 0 (0 : Int) ≤ time) = true) → ((((l_Lines.getD (gi y0 1).toNat []).getD 1 (0 : Int) == (4 : Int)) = false) → (inR (gi y0 1) l_Lines))) (xac ((decide ((l_Lines.getD (gi y0 1).toNat []).getD 0 (0 : Int) ≤ time) = true) → ((((l_Lines.getD (gi y0 1).toNat []).getD 1 (0 : Int) == (4 : Int)) = false) → (inR (gi y0 1) l_Lines))) ((bif decide ((l_Lines.getD (gi y0 1).toNat []).getD 0 (0 : Int) ≤ time) &&
 ((l_Lines.getD (gi y0 1).toNat []).getD 1 (0 : Int) == (4 : Int) || (l_Lines.getD (gi y0 1).toNat []).getD 1 (0 : Int) == (5 : Int)) then xac (inR (gi y0 1) l_Lines) (xac (inR (gi y0 1) l_Lines) (xac (inR (gi y0 1) l_Lines) (some (0, [.b ((l_Lines.getD (gi y0 1).toNat []).getD 1 (0 : Int) == (4 : Int)), .i (IntKind.i64.wrap (gi y0 1 + (1 : Int)))])))) else some (0, [.b (gb y0 0), .i (IntKind.i64.wrap (gi y0 1 + (1 : Int)))]))))))))))) else some (3, [.b (gb y0 0), .i (gi y0 1)]))
noncomputable def xr8 (l_Owner time : Int) (l_Lines : List (List Int)) : Nat × List U := xaC (xh3 l_Owner time l_Lines) (xh4 l_Owner time l_Lines)
noncomputable def xoS (l_Owner time : Int) (l_Lines : List (List Int)) : Bool :=
 gb (xr8 l_Owner time l_Lines).snd 0
def xiO (l_Owner time : Int) (l_Lines : List (List Int)) : Prop :=
 ((xaM (xh3 l_Owner time l_Lines) (xh4 l_Owner time l_Lines)))
noncomputable def xh6 (l_Owner kind item from_ until_ : Int) (l_Lines : List (List Int)) : List U :=
 [.b (false), .i ((0 : Int))]
noncomputable def xh5 (l_Owner kind item from_ until_ : Int) (l_Lines : List (List Int)) (y0 : List U) : Option (Nat × List U) :=
 (bif decide (gi y0 1 < (↑l_Lines.length : Int)) then xac (inR (gi y0 1) l_Lines) (xac (inR (gi y0 1) l_Lines) ((bif (l_Lines.getD (gi y0 1).toNat []).getD 1 (0 : Int) == kind && (l_Lines.getD (gi y0 1).toNat []).getD 2 (0 : Int) == item &&
  decide (from_ ≤ (l_Lines.getD (gi y0 1).toNat []).getD 0 (0 : Int)) &&
 decide ((l_Lines.getD (gi y0 1).toNat []).getD 0 (0 : Int) ≤ until_) then some (1, []) else some (0, [.b (gb y0 0), .i (IntKind.i64.wrap (gi y0 1 + (1 : Int)))])))) else some (3, [.b (gb y0 0), .i (gi y0 1)]))
noncomputable def xr9 (l_Owner kind item from_ until_ : Int) (l_Lines : List (List Int)) : Nat × List U := xaC (xh5 l_Owner kind item from_ until_ l_Lines) (xh6 l_Owner kind item from_ until_ l_Lines)
noncomputable def xoT (l_Owner kind item from_ until_ : Int) (l_Lines : List (List Int)) : Bool :=
 bif (xr9 l_Owner kind item from_ until_ l_Lines).fst.beq 1 then true else false
def xiP (l_Owner kind item from_ until_ : Int) (l_Lines : List (List Int)) : Prop :=
 ((xaM (xh5 l_Owner kind item from_ until_ l_Lines) (xh6 l_Owner kind item from_ until_ l_Lines)))
noncomputable def xif (n : Int) (list : List (List Int)) : List U :=
 [.b (false), .i ((0 : Int))]
noncomputable def xie (n : Int) (list : List (List Int)) (y0 : List U) : Option (Nat × List U) :=
 (bif decide (gi y0 1 < (↑list.length : Int)) then xac (inR (gi y0 1) list) (xac (inR (gi y0 1) list) ((bif (list.getD (gi y0 1).toNat []).getD 0 (0 : Int) == n then some (1, []) else some (0, [.b (gb y0 0), .i (IntKind.i64.wrap (gi y0 1 + (1 : Int)))])))) else some (3, [.b (gb y0 0), .i (gi y0 1)]))
noncomputable def xsy (n : Int) (list : List (List Int)) : Nat × List U := xaC (xie n list) (xif n list)
noncomputable def xpc (n : Int) (list : List (List Int)) : Bool :=
 bif (xsy n list).fst.beq 1 then true else false
def xiV (n : Int) (list : List (List Int)) : Prop :=
 ((xaM (xie n list) (xif n list)))
end Go.Proofs.YtikhnofbbcmpeaaGreat
set_option maxRecDepth 100000
set_option linter.unusedVariables false
namespace Go.Proofs.YtikhnofbbcmpeaaGreat
open Go Go.Sy
theorem xq9 (l_Owner time : Int) (l_Lines : List (List Int)) : xay Tryz.prog 1 (xa8 Tryz.prog K39 xdm 9 19 [.agg [.int .i64 l_Owner, .sl 0], .int .i64 time] ⟨[⟨0, 1, false, .row 29 [.int .i64, .int .i64, .int .i64, .int .u64] l_Lines⟩], 1⟩) = some ⟨some (xiO l_Owner time l_Lines), [], 0, [], .bool (xoS l_Owner time l_Lines)⟩ := by kernel_rfl
noncomputable def xlX : List U → Option Eff
 | [.i l_Owner, .i time, .r l_Lines] => some ⟨some (xiO l_Owner time l_Lines), [], 0, [], .bool (xoS l_Owner time l_Lines)⟩
 | _ => Option.none
noncomputable def K40 : Con := ext Tryz.prog K39 19 [.agg [.int .i64 0, .sl 0], .int .i64 0] [⟨0, 0, false, .row 29 [.int .i64, .int .i64, .int .i64, .int .u64] []⟩] xlX
theorem xAx : xbv Tryz.prog K40 := xaB xaI xAy (n := 9) rfl rfl fun us x h => by
 unfold xlX at h
 split at h
 ·cases h; exact ⟨some (xiO _ _ _), xq9 _ _ _, fun h => h⟩
 ·cases h
theorem xra (l_Owner kind item from_ until_ : Int) (l_Lines : List (List Int)) : xay Tryz.prog 1 (xa8 Tryz.prog K40 xdm 9 20 [.agg [.int .i64 l_Owner, .sl 0], .int .i64 kind, .int .i64 item, .int .i64 from_, .int .i64 until_] ⟨[⟨0, 1, false, .row 29 [.int .i64, .int .i64, .int .i64, .int .u64] l_Lines⟩], 1⟩) = some ⟨some (xiP l_Owner kind item from_ until_ l_Lines), [], 0, [], .bool (xoT l_Owner kind item from_ until_ l_Lines)⟩ := by kernel_rfl
noncomputable def xlY : List U → Option Eff
 | [.i l_Owner, .i kind, .i item, .i from_, .i until_, .r l_Lines] => some ⟨some (xiP l_Owner kind item from_ until_ l_Lines), [], 0, [], .bool (xoT l_Owner kind item from_ until_ l_Lines)⟩
 | _ => Option.none
noncomputable def K41 : Con := ext Tryz.prog K40 20 [.agg [.int .i64 0, .sl 0], .int .i64 0, .int .i64 0, .int .i64 0, .int .i64 0] [⟨0, 0, false, .row 29 [.int .i64, .int .i64, .int .i64, .int .u64] []⟩] xlY
theorem xAw : xbv Tryz.prog K41 := xaB xaI xAx (n := 9) rfl rfl fun us x h => by
 unfold xlY at h
 split at h
 ·cases h; exact ⟨some (xiP _ _ _ _ _ _), xra _ _ _ _ _ _, fun h => h⟩
 ·cases h
theorem xru (n : Int) (list : List (List Int)) : xay Tryz.prog 1 (xa8 Tryz.prog K41 xdm 9 18 [.sl 0, .int .i64 n] ⟨[⟨0, 1, false, .row 3 [.int .i64] list⟩], 1⟩) = some ⟨some (xiV n list), [], 0, [], .bool (xpc n list)⟩ := by kernel_rfl
noncomputable def xmc : List U → Option Eff
 | [.i n, .r list] => some ⟨some (xiV n list), [], 0, [], .bool (xpc n list)⟩
 | _ => Option.none
noncomputable def K42 : Con := ext Tryz.prog K41 18 [.sl 0, .int .i64 0] [⟨0, 0, false, .row 3 [.int .i64] []⟩] xmc
theorem xAv : xbv Tryz.prog K42 := xaB xaI xAw (n := 9) rfl rfl fun us x h => by
 unfold xmc at h
 split at h
 ·cases h; exact ⟨some (xiV _ _), xru _ _, fun h => h⟩
 ·cases h
end Go.Proofs.YtikhnofbbcmpeaaGreat
set_option maxRecDepth 100000
set_option linter.unusedVariables false
namespace Go.Proofs.YtikhnofbbcmpeaaGreat
open Go Go.Sy
noncomputable def xh8 (office_Owner : Int) (office_Lines ships chances : List (List Int)) : List U :=
 [.b (false), .i ((0 : Int))]
noncomputable def xh7 (office_Owner : Int) (office_Lines ships chances : List (List Int)) (y0 : List U) : Option (Nat × List U) :=
 (bif decide (gi y0 1 < (↑ships.length : Int)) then xac (inR (gi y0 1) ships) (xac (inR (gi y0 1) ships) (xac (inR (gi y0 1) ships) (xac ((decide ((↑(decL ((ships.getD (gi y0 1).toNat []).getD 1 (0 : Int))).length : Int) > (40 : Int)) = true) → (inR (gi y0 1) ships)) (xac ((decide ((↑(decL ((ships.getD (gi y0 1).toNat []).getD 1 (0 : Int))).length : Int) > (40 : Int)) = true) → (inR (gi y0 1) ships)) ((bif decide ((↑(decL ((ships.getD (gi y0 1).toNat []).getD 1 (0 : Int))).length : Int) > (40 : Int)) == true then xac (inR (gi y0 1) ships) ((bif decide ((↑(decL ((ships.getD (gi y0 1).toNat []).getD 1 (0 : Int))).length : Int) ≤ (200 : Int)) then some (1, []) else some (0, [.b (gb y0 0), .i (IntKind.i64.wrap (gi y0 1 + (1 : Int)))]))) else some (0, [.b (gb y0 0), .i (IntKind.i64.wrap (gi y0 1 + (1 : Int)))]))))))) else some (4, [.b (gb y0 0), .i (gi y0 1)]))
noncomputable def xsa (office_Owner : Int) (office_Lines ships chances : List (List Int)) : Nat × List U := xaC (xh7 office_Owner office_Lines ships chances) (xh8 office_Owner office_Lines ships chances)
noncomputable def xoU (office_Owner : Int) (office_Lines ships chances : List (List Int)) : Bool :=
 bif
  decide ((↑chances.length : Int) > (16 : Int)) && decide ((↑chances.length : Int) ≤ (200 : Int)) || decide ((↑ships.length : Int) > (20 : Int)) ||
   decide ((↑office_Lines.length : Int) > (40 : Int)) && decide ((↑office_Lines.length : Int) ≤ (200 : Int)) then
 false
else bif (xsa office_Owner office_Lines ships chances).fst.beq 1 then false else true
def xiQ (office_Owner : Int) (office_Lines ships chances : List (List Int)) : Prop :=
 (((decide ((↑chances.length : Int) > (16 : Int)) && decide ((↑chances.length : Int) ≤ (200 : Int)) || decide ((↑ships.length : Int) > (20 : Int)) ||
  decide ((↑office_Lines.length : Int) > (40 : Int)) && decide ((↑office_Lines.length : Int) ≤ (200 : Int))) =
 false) → ((xaM (xh7 office_Owner office_Lines ships chances) (xh8 office_Owner office_Lines ships chances))))
end Go.Proofs.YtikhnofbbcmpeaaGreat
set_option maxRecDepth 100000
set_option linter.unusedVariables false
namespace Go.Proofs.YtikhnofbbcmpeaaGreat
open Go Go.Sy
theorem xrb (office_Owner : Int) (office_Lines ships chances : List (List Int)) : xay Tryz.prog 3 (xa8 Tryz.prog K42 xdm 9 21 [.agg [.int .i64 office_Owner, .sl 0], .sl 1, .sl 2] ⟨[⟨0, 3, false, .row 29 [.int .i64, .int .i64, .int .i64, .int .u64] office_Lines⟩, ⟨1, 3, false, .nst 24 [.c (.int .i64), .s 29 [.int .i64, .int .i64, .int .i64, .int .u64]] ships⟩, ⟨2, 3, false, .row 41 [.int .i64, .int .i64, .int .i64] chances⟩], 3⟩) = some ⟨some (xiQ office_Owner office_Lines ships chances), [], 0, [], .bool (xoU office_Owner office_Lines ships chances)⟩ := by kernel_rfl
noncomputable def xlZ : List U → Option Eff
 | [.i office_Owner, .r office_Lines, .r ships, .r chances] => some ⟨some (xiQ office_Owner office_Lines ships chances), [], 0, [], .bool (xoU office_Owner office_Lines ships chances)⟩
 | _ => Option.none
noncomputable def K43 : Con := ext Tryz.prog K42 21 [.agg [.int .i64 0, .sl 0], .sl 1, .sl 2] [⟨0, 0, false, .row 29 [.int .i64, .int .i64, .int .i64, .int .u64] []⟩, ⟨1, 0, false, .nst 24 [.c (.int .i64), .s 29 [.int .i64, .int .i64, .int .i64, .int .u64]] []⟩, ⟨2, 0, false, .row 41 [.int .i64, .int .i64, .int .i64] []⟩] xlZ
theorem xAu : xbv Tryz.prog K43 := xaB xaI xAv (n := 9) rfl rfl fun us x h => by
 unfold xlZ at h
 split at h
 ·cases h; exact ⟨some (xiQ _ _ _ _), xrb _ _ _ _, fun h => h⟩
 ·cases h
end Go.Proofs.YtikhnofbbcmpeaaGreat
set_option maxRecDepth 100000
set_option linter.unusedVariables false
namespace Go.Proofs.YtikhnofbbcmpeaaGreat
open Go Go.Sy
noncomputable def xcx (x_Time x_Kind x_Item x_Sum which n : Int) : Int :=
 bif which.tmod (3 : Int) == (0 : Int) then n else bif which.tmod (3 : Int) == (1 : Int) then x_Time else x_Time
noncomputable def xcw (x_Time x_Kind x_Item x_Sum which n : Int) : Int :=
 bif which.tmod (3 : Int) == (0 : Int) then x_Kind else bif which.tmod (3 : Int) == (1 : Int) then n else x_Kind
noncomputable def xcv (x_Time x_Kind x_Item x_Sum which n : Int) : Int :=
 bif which.tmod (3 : Int) == (0 : Int) then x_Item else bif which.tmod (3 : Int) == (1 : Int) then x_Item else n
noncomputable def xdW (x_Time x_Kind x_Item x_Sum which n : Int) : Int :=
 bif which.tmod (3 : Int) == (0 : Int) then x_Sum else bif which.tmod (3 : Int) == (1 : Int) then x_Sum else x_Sum
def xft (x_Time x_Kind x_Item x_Sum which n : Int) : Prop :=
 (((3 : Int) : Int) ≠ (0 : Int))
theorem xmd (x_Time x_Kind x_Item x_Sum which n : Int) : xft x_Time x_Kind x_Item x_Sum which n := by
 unfold xft
 (first | (simp; done) | (simp; omega) | (simp [IntKind.wrap_i64]; done) | (simp [IntKind.wrap_i64]; omega))
noncomputable def xji (l_Owner at_ x_Time x_Kind x_Item x_Sum : Int) (l_Lines : List (List Int)) : List (List Int) :=
 ([] ++ l_Lines).set at_.toNat (xli 4 (([] ++ l_Lines).getD at_.toNat []) 0 [x_Time, x_Kind, x_Item, x_Sum])
noncomputable def xd5 (l_Owner at_ x_Time x_Kind x_Item x_Sum : Int) (l_Lines : List (List Int)) (y0 : List U) : List (List Int) :=
 [[((gr y0 1).getD (gi y0 0).toNat []).getD 1 (0 : Int)], [((gr y0 1).getD (gi y0 0).toNat []).getD 2 (0 : Int)]]
noncomputable def xgu (l_Owner at_ x_Time x_Kind x_Item x_Sum : Int) (l_Lines : List (List Int)) (y0 : List U) : List (List Int) :=
 [IntKind.i64.wrap (((gr y0 1).getD (IntKind.i64.wrap (gi y0 0 - (1 : Int))).toNat []).getD 3 (0 : Int))] ::
 [((gr y0 1).getD (gi y0 0).toNat []).getD 0 (0 : Int)] :: (xd5 l_Owner at_ x_Time x_Kind x_Item x_Sum l_Lines y0)
noncomputable def xjh (l_Owner at_ x_Time x_Kind x_Item x_Sum : Int) (l_Lines : List (List Int)) (y0 : List U) : List Int :=
 xli 4 ((gr y0 1).getD (gi y0 0).toNat []) 3
 [xc6 ([l_Owner] :: [IntKind.i64.wrap (0 : Int)] :: [((gr y0 1).getD (gi y0 0).toNat []).getD 0 (0 : Int)] :: (xd5 l_Owner at_ x_Time x_Kind x_Item x_Sum l_Lines y0))]
noncomputable def xdt (l_Owner at_ x_Time x_Kind x_Item x_Sum : Int) (l_Lines : List (List Int)) : List U :=
 [.i (at_), .r ((xji l_Owner at_ x_Time x_Kind x_Item x_Sum l_Lines))]
noncomputable def xcD (l_Owner at_ x_Time x_Kind x_Item x_Sum : Int) (l_Lines : List (List Int)) (y0 : List U) : Option (Nat × List U) :=
 (bif decide (gi y0 0 < (↑(gr y0 1).length : Int)) then (bif decide (gi y0 0 > (0 : Int)) then xac (inR (IntKind.i64.wrap (gi y0 0 - (1 : Int))) (gr y0 1)) (xac (inR (IntKind.i64.wrap (gi y0 0 - (1 : Int))) (gr y0 1)) (xac (inR (IntKind.i64.wrap (gi y0 0 - (1 : Int))) (gr y0 1)) (xac (inR (gi y0 0) (gr y0 1)) (xac (inR (gi y0 0) (gr y0 1)) (xac (xcf ([l_Owner] :: (xgu l_Owner at_ x_Time x_Kind x_Item x_Sum l_Lines y0))) (xac (inR (gi y0 0) (gr y0 1)) (xac (inR (gi y0 0) (gr y0 1)) (xac (inR (gi y0 0) (gr y0 1)) (some (0, [.i (IntKind.i64.wrap (gi y0 0 + (1 : Int))), .r ((gr y0 1).set (gi y0 0).toNat (xli 4 ((gr y0 1).getD (gi y0 0).toNat []) 3 [xc6 ([l_Owner] :: (xgu l_Owner at_ x_Time x_Kind x_Item x_Sum l_Lines y0))]))])))))))))) else xac (inR (gi y0 0) (gr y0 1)) (xac (inR (gi y0 0) (gr y0 1)) (xac (xcf ([l_Owner] :: [IntKind.i64.wrap (0 : Int)] :: [((gr y0 1).getD (gi y0 0).toNat []).getD 0 (0 : Int)] :: (xd5 l_Owner at_ x_Time x_Kind x_Item x_Sum l_Lines y0))) (xac (inR (gi y0 0) (gr y0 1)) (xac (inR (gi y0 0) (gr y0 1)) (xac (inR (gi y0 0) (gr y0 1)) (some (0, [.i (IntKind.i64.wrap (gi y0 0 + (1 : Int))), .r ((gr y0 1).set (gi y0 0).toNat ((xjh l_Owner at_ x_Time x_Kind x_Item x_Sum l_Lines y0)))])))))))) else some (3, [.i (gi y0 0), .r (gr y0 1)]))
noncomputable def xjj (l_Owner at_ x_Time x_Kind x_Item x_Sum : Int) (l_Lines : List (List Int)) : Nat × List U := xaC (xcD l_Owner at_ x_Time x_Kind x_Item x_Sum l_Lines) (xdt l_Owner at_ x_Time x_Kind x_Item x_Sum l_Lines)
noncomputable def xbd (l_Owner at_ x_Time x_Kind x_Item x_Sum : Int) (l_Lines : List (List Int)) : List (List Int) :=
 gr (xjj l_Owner at_ x_Time x_Kind x_Item x_Sum l_Lines).snd 1
noncomputable def xcE (l_Owner at_ x_Time x_Kind x_Item x_Sum : Int) (l_Lines : List (List Int)) : Int :=
 l_Owner
def xdM (l_Owner at_ x_Time x_Kind x_Item x_Sum : Int) (l_Lines : List (List Int)) : Prop :=
 ((xbH 32 (0 + l_Lines.length)) ∧ ((inR at_ ([] ++ l_Lines)) ∧ ((inR at_ ([] ++ l_Lines)) ∧ ((xaM (xcD l_Owner at_ x_Time x_Kind x_Item x_Sum l_Lines) (xdt l_Owner at_ x_Time x_Kind x_Item x_Sum l_Lines))))))
end Go.Proofs.YtikhnofbbcmpeaaGreat
set_option maxRecDepth 100000
set_option linter.unusedVariables false
namespace Go.Proofs.YtikhnofbbcmpeaaGreat
open Go Go.Sy
theorem xpd (x_Time x_Kind x_Item x_Sum which n : Int) : xay Tryz.prog 0 (xa8 Tryz.prog K43 xdm 9 14 [.agg [.int .i64 x_Time, .int .i64 x_Kind, .int .i64 x_Item, .int .u64 x_Sum], .int .u8 which, .int .i64 n] ⟨[], 0⟩) = some ⟨some (xft x_Time x_Kind x_Item x_Sum which n), [], 0, [], .agg [.int .i64 (xcx x_Time x_Kind x_Item x_Sum which n), .int .i64 (xcw x_Time x_Kind x_Item x_Sum which n), .int .i64 (xcv x_Time x_Kind x_Item x_Sum which n), .int .u64 (xdW x_Time x_Kind x_Item x_Sum which n)]⟩ := by kernel_rfl
noncomputable def xj2 : List U → Option Eff
 | [.i x_Time, .i x_Kind, .i x_Item, .i x_Sum, .i which, .i n] => some ⟨none, [], 0, [], .agg [.int .i64 (xcx x_Time x_Kind x_Item x_Sum which n), .int .i64 (xcw x_Time x_Kind x_Item x_Sum which n), .int .i64 (xcv x_Time x_Kind x_Item x_Sum which n), .int .u64 (xdW x_Time x_Kind x_Item x_Sum which n)]⟩
 | _ => Option.none
noncomputable def K44 : Con := ext Tryz.prog K43 14 [.agg [.int .i64 0, .int .i64 0, .int .i64 0, .int .u64 0], .int .u8 0, .int .i64 0] [] xj2
theorem xAt : xbv Tryz.prog K44 := xaB xaI xAu (n := 9) rfl rfl fun us x h => by
 unfold xj2 at h
 split at h
 ·rename_i x_Time x_Kind x_Item x_Sum which n; cases h; exact ⟨some (xft x_Time x_Kind x_Item x_Sum which n), xpd x_Time x_Kind x_Item x_Sum which n, fun _ => xmd x_Time x_Kind x_Item x_Sum which n⟩
 ·cases h
theorem xm3 (l_Owner at_ x_Time x_Kind x_Item x_Sum : Int) (l_Lines : List (List Int)) : xay Tryz.prog 1 (xa8 Tryz.prog K44 xdm 9 15 [.agg [.int .i64 l_Owner, .sl 0], .int .i64 at_, .agg [.int .i64 x_Time, .int .i64 x_Kind, .int .i64 x_Item, .int .u64 x_Sum]] ⟨[⟨0, 1, false, .row 29 [.int .i64, .int .i64, .int .i64, .int .u64] l_Lines⟩], 1⟩) = some ⟨some (xdM l_Owner at_ x_Time x_Kind x_Item x_Sum l_Lines), [], 1, [⟨1, 1, true, .row 29 [.int .i64, .int .i64, .int .i64, .int .u64] (xbd l_Owner at_ x_Time x_Kind x_Item x_Sum l_Lines)⟩], .agg [.int .i64 (xcE l_Owner at_ x_Time x_Kind x_Item x_Sum l_Lines), .sl 1]⟩ := by kernel_rfl
noncomputable def xig : List U → Option Eff
 | [.i l_Owner, .i at_, .i x_Time, .i x_Kind, .i x_Item, .i x_Sum, .r l_Lines] => some ⟨some (xdM l_Owner at_ x_Time x_Kind x_Item x_Sum l_Lines), [], 1, [⟨1, 1, true, .row 29 [.int .i64, .int .i64, .int .i64, .int .u64] (xbd l_Owner at_ x_Time x_Kind x_Item x_Sum l_Lines)⟩], .agg [.int .i64 (xcE l_Owner at_ x_Time x_Kind x_Item x_Sum l_Lines), .sl 1]⟩
 | _ => Option.none
noncomputable def K45 : Con := ext Tryz.prog K44 15 [.agg [.int .i64 0, .sl 0], .int .i64 0, .agg [.int .i64 0, .int .i64 0, .int .i64 0, .int .u64 0]] [⟨0, 0, false, .row 29 [.int .i64, .int .i64, .int .i64, .int .u64] []⟩] xig
theorem xAs : xbv Tryz.prog K45 := xaB xaI xAt (n := 9) rfl rfl fun us x h => by
 unfold xig at h
 split at h
 ·cases h; exact ⟨some (xdM _ _ _ _ _ _ _), xm3 _ _ _ _ _ _ _, fun h => h⟩
 ·cases h
end Go.Proofs.YtikhnofbbcmpeaaGreat
set_option maxRecDepth 100000
set_option linter.unusedVariables false
namespace Go.Proofs.YtikhnofbbcmpeaaGreat
open Go Go.Sy
noncomputable def xbg (l_Owner count cut at_ which n : Int) (l_Lines : List (List Int)) : Int :=
 (↑((xag (↑l_Lines.length : Int) none (some ((IntKind.i64.wrap cut).tmod (IntKind.i64.wrap ((↑l_Lines.length : Int) + (1 : Int)))))).snd.snd.toNat -
   loN (xag (↑l_Lines.length : Int) none (some ((IntKind.i64.wrap cut).tmod (IntKind.i64.wrap ((↑l_Lines.length : Int) + (1 : Int)))))).snd.fst) :
 Int)
noncomputable def xgm (l_Owner count cut at_ which n : Int) (l_Lines : List (List Int)) (y0 : List U) : Int :=
 xbQ l_Owner (gi y0 2)
 ((l_Lines.getD (shI (xag (↑l_Lines.length : Int) none (some ((IntKind.i64.wrap cut).tmod (IntKind.i64.wrap ((↑l_Lines.length : Int) + (1 : Int)))))).snd.fst (gi y0 4)).toNat []).getD
  0 (0 : Int))
 ((l_Lines.getD (shI (xag (↑l_Lines.length : Int) none (some ((IntKind.i64.wrap cut).tmod (IntKind.i64.wrap ((↑l_Lines.length : Int) + (1 : Int)))))).snd.fst (gi y0 4)).toNat []).getD
  1 (0 : Int))
 ((l_Lines.getD (shI (xag (↑l_Lines.length : Int) none (some ((IntKind.i64.wrap cut).tmod (IntKind.i64.wrap ((↑l_Lines.length : Int) + (1 : Int)))))).snd.fst (gi y0 4)).toNat []).getD
  2 (0 : Int))
 ((l_Lines.getD (shI (xag (↑l_Lines.length : Int) none (some ((IntKind.i64.wrap cut).tmod (IntKind.i64.wrap ((↑l_Lines.length : Int) + (1 : Int)))))).snd.fst (gi y0 4)).toNat []).getD
  3 (0 : Int))
noncomputable def xdn (l_Owner count cut at_ which n : Int) (l_Lines : List (List Int)) : List U :=
 [.b (false), .b (false), .i ((0 : Int)), .i ((0 : Int)), .i ((0 : Int))]
noncomputable def xbh (l_Owner count cut at_ which n : Int) (l_Lines : List (List Int)) (y0 : List U) : Option (Nat × List U) :=
 (bif decide (gi y0 4 < (xbg l_Owner count cut at_ which n l_Lines)) then xac (((0 : Int) ≤ gi y0 4) ∧ (((↑(loN (xag (↑l_Lines.length : Int) none (some ((IntKind.i64.wrap cut).tmod (IntKind.i64.wrap ((↑l_Lines.length : Int) + (1 : Int)))))).snd.fst) : Int) + gi y0 4 <
 (xag (↑l_Lines.length : Int) none (some ((IntKind.i64.wrap cut).tmod (IntKind.i64.wrap ((↑l_Lines.length : Int) + (1 : Int)))))).snd.snd) ∧ ((xag (↑l_Lines.length : Int) none (some ((IntKind.i64.wrap cut).tmod (IntKind.i64.wrap ((↑l_Lines.length : Int) + (1 : Int)))))).snd.snd ≤ (↑l_Lines.length : Int)))) (xac (inR (shI (xag (↑l_Lines.length : Int) none (some ((IntKind.i64.wrap cut).tmod (IntKind.i64.wrap ((↑l_Lines.length : Int) + (1 : Int)))))).snd.fst (gi y0 4)) l_Lines) (xac (((!xbB
     ((l_Lines.getD (shI (xag (↑l_Lines.length : Int) none (some ((IntKind.i64.wrap cut).tmod (IntKind.i64.wrap ((↑l_Lines.length : Int) + (1 : Int)))))).snd.fst (gi y0 4)).toNat
        []).getD
      0 (0 : Int))
     ((l_Lines.getD (shI (xag (↑l_Lines.length : Int) none (some ((IntKind.i64.wrap cut).tmod (IntKind.i64.wrap ((↑l_Lines.length : Int) + (1 : Int)))))).snd.fst (gi y0 4)).toNat
        []).getD
      1 (0 : Int))
     ((l_Lines.getD (shI (xag (↑l_Lines.length : Int) none (some ((IntKind.i64.wrap cut).tmod (IntKind.i64.wrap ((↑l_Lines.length : Int) + (1 : Int)))))).snd.fst (gi y0 4)).toNat
        []).getD
      2 (0 : Int)) ||
   !xa9 l_Owner
     ((l_Lines.getD (shI (xag (↑l_Lines.length : Int) none (some ((IntKind.i64.wrap cut).tmod (IntKind.i64.wrap ((↑l_Lines.length : Int) + (1 : Int)))))).snd.fst (gi y0 4)).toNat
        []).getD
      1 (0 : Int)) ||
  decide
   ((l_Lines.getD (shI (xag (↑l_Lines.length : Int) none (some ((IntKind.i64.wrap cut).tmod (IntKind.i64.wrap ((↑l_Lines.length : Int) + (1 : Int)))))).snd.fst (gi y0 4)).toNat []).getD
     0 (0 : Int) <
    gi y0 3)) =
 false) → (xbz l_Owner (gi y0 2)
 ((l_Lines.getD (shI (xag (↑l_Lines.length : Int) none (some ((IntKind.i64.wrap cut).tmod (IntKind.i64.wrap ((↑l_Lines.length : Int) + (1 : Int)))))).snd.fst (gi y0 4)).toNat []).getD
  0 (0 : Int))
 ((l_Lines.getD (shI (xag (↑l_Lines.length : Int) none (some ((IntKind.i64.wrap cut).tmod (IntKind.i64.wrap ((↑l_Lines.length : Int) + (1 : Int)))))).snd.fst (gi y0 4)).toNat []).getD
  1 (0 : Int))
 ((l_Lines.getD (shI (xag (↑l_Lines.length : Int) none (some ((IntKind.i64.wrap cut).tmod (IntKind.i64.wrap ((↑l_Lines.length : Int) + (1 : Int)))))).snd.fst (gi y0 4)).toNat []).getD
  2 (0 : Int))
 ((l_Lines.getD (shI (xag (↑l_Lines.length : Int) none (some ((IntKind.i64.wrap cut).tmod (IntKind.i64.wrap ((↑l_Lines.length : Int) + (1 : Int)))))).snd.fst (gi y0 4)).toNat []).getD
  3 (0 : Int)))) ((bif !xbB
     ((l_Lines.getD (shI (xag (↑l_Lines.length : Int) none (some ((IntKind.i64.wrap cut).tmod (IntKind.i64.wrap ((↑l_Lines.length : Int) + (1 : Int)))))).snd.fst (gi y0 4)).toNat
        []).getD
      0 (0 : Int))
     ((l_Lines.getD (shI (xag (↑l_Lines.length : Int) none (some ((IntKind.i64.wrap cut).tmod (IntKind.i64.wrap ((↑l_Lines.length : Int) + (1 : Int)))))).snd.fst (gi y0 4)).toNat
        []).getD
      1 (0 : Int))
     ((l_Lines.getD (shI (xag (↑l_Lines.length : Int) none (some ((IntKind.i64.wrap cut).tmod (IntKind.i64.wrap ((↑l_Lines.length : Int) + (1 : Int)))))).snd.fst (gi y0 4)).toNat
        []).getD
      2 (0 : Int)) ||
   !xa9 l_Owner
     ((l_Lines.getD (shI (xag (↑l_Lines.length : Int) none (some ((IntKind.i64.wrap cut).tmod (IntKind.i64.wrap ((↑l_Lines.length : Int) + (1 : Int)))))).snd.fst (gi y0 4)).toNat
        []).getD
      1 (0 : Int)) ||
  decide
   ((l_Lines.getD (shI (xag (↑l_Lines.length : Int) none (some ((IntKind.i64.wrap cut).tmod (IntKind.i64.wrap ((↑l_Lines.length : Int) + (1 : Int)))))).snd.fst (gi y0 4)).toNat []).getD
     0 (0 : Int) <
    gi y0 3) ||
 (l_Lines.getD (shI (xag (↑l_Lines.length : Int) none (some ((IntKind.i64.wrap cut).tmod (IntKind.i64.wrap ((↑l_Lines.length : Int) + (1 : Int)))))).snd.fst (gi y0 4)).toNat []).getD
   3 (0 : Int) !=
  (xgm l_Owner count cut at_ which n l_Lines y0) then some (1, []) else (bif xbL
  ((l_Lines.getD (shI (xag (↑l_Lines.length : Int) none (some ((IntKind.i64.wrap cut).tmod (IntKind.i64.wrap ((↑l_Lines.length : Int) + (1 : Int)))))).snd.fst (gi y0 4)).toNat []).getD
   1 (0 : Int)) ==
 (3 : Int) then (bif gb y0 1 ==
 ((l_Lines.getD (shI (xag (↑l_Lines.length : Int) none (some ((IntKind.i64.wrap cut).tmod (IntKind.i64.wrap ((↑l_Lines.length : Int) + (1 : Int)))))).snd.fst (gi y0 4)).toNat []).getD
   1 (0 : Int) ==
  (4 : Int)) then some (2, []) else some (0, [.b (gb y0 0), .b (!gb y0 1), .i ((l_Lines.getD (shI (xag (↑l_Lines.length : Int) none (some ((IntKind.i64.wrap cut).tmod (IntKind.i64.wrap ((↑l_Lines.length : Int) + (1 : Int)))))).snd.fst (gi y0 4)).toNat []).getD
 3 (0 : Int)), .i ((l_Lines.getD (shI (xag (↑l_Lines.length : Int) none (some ((IntKind.i64.wrap cut).tmod (IntKind.i64.wrap ((↑l_Lines.length : Int) + (1 : Int)))))).snd.fst (gi y0 4)).toNat []).getD
 0 (0 : Int)), .i (IntKind.i64.wrap (gi y0 4 + (1 : Int)))])) else some (0, [.b (gb y0 0), .b (gb y0 1), .i ((l_Lines.getD (shI (xag (↑l_Lines.length : Int) none (some ((IntKind.i64.wrap cut).tmod (IntKind.i64.wrap ((↑l_Lines.length : Int) + (1 : Int)))))).snd.fst (gi y0 4)).toNat []).getD
 3 (0 : Int)), .i ((l_Lines.getD (shI (xag (↑l_Lines.length : Int) none (some ((IntKind.i64.wrap cut).tmod (IntKind.i64.wrap ((↑l_Lines.length : Int) + (1 : Int)))))).snd.fst (gi y0 4)).toNat []).getD
 0 (0 : Int)), .i (IntKind.i64.wrap (gi y0 4 + (1 : Int)))])))))) else some (5, [.b (gb y0 0), .b (gb y0 1), .i (gi y0 2), .i (gi y0 3), .i (gi y0 4)]))
noncomputable def xa5 (l_Owner count cut at_ which n : Int) (l_Lines : List (List Int)) : Nat × List U := xaC (xbh l_Owner count cut at_ which n l_Lines) (xdn l_Owner count cut at_ which n l_Lines)
noncomputable def xai (l_Owner count cut at_ which n : Int) (l_Lines : List (List Int)) : Int :=
 (some (imin (IntKind.i64.wrap ((1 : Int) + (IntKind.i64.wrap count).tmod (↑l_Lines.length : Int))) ((xbg l_Owner count cut at_ which n l_Lines)))).getD
 (xag (↑l_Lines.length : Int) none (some ((IntKind.i64.wrap cut).tmod (IntKind.i64.wrap ((↑l_Lines.length : Int) + (1 : Int)))))).snd.snd
noncomputable def xaE (l_Owner count cut at_ which n : Int) (l_Lines : List (List Int)) : Int :=
 (↑((xag (↑l_Lines.length : Int) none (some ((xai l_Owner count cut at_ which n l_Lines)))).snd.snd.toNat - loN (xag (↑l_Lines.length : Int) none (some ((xai l_Owner count cut at_ which n l_Lines)))).snd.fst) : Int) - (1 : Int)
noncomputable def xaq (l_Owner count cut at_ which n : Int) (l_Lines : List (List Int)) : Int :=
 xcx ((l_Lines.getD ((IntKind.i64.wrap at_).tmod (IntKind.i64.wrap ((1 : Int) + (IntKind.i64.wrap count).tmod (↑l_Lines.length : Int)))).toNat []).getD 0 (0 : Int))
 ((l_Lines.getD ((IntKind.i64.wrap at_).tmod (IntKind.i64.wrap ((1 : Int) + (IntKind.i64.wrap count).tmod (↑l_Lines.length : Int)))).toNat []).getD 1 (0 : Int))
 ((l_Lines.getD ((IntKind.i64.wrap at_).tmod (IntKind.i64.wrap ((1 : Int) + (IntKind.i64.wrap count).tmod (↑l_Lines.length : Int)))).toNat []).getD 2 (0 : Int))
 ((l_Lines.getD ((IntKind.i64.wrap at_).tmod (IntKind.i64.wrap ((1 : Int) + (IntKind.i64.wrap count).tmod (↑l_Lines.length : Int)))).toNat []).getD 3 (0 : Int)) which n
noncomputable def xap (l_Owner count cut at_ which n : Int) (l_Lines : List (List Int)) : Int :=
 xcw ((l_Lines.getD ((IntKind.i64.wrap at_).tmod (IntKind.i64.wrap ((1 : Int) + (IntKind.i64.wrap count).tmod (↑l_Lines.length : Int)))).toNat []).getD 0 (0 : Int))
 ((l_Lines.getD ((IntKind.i64.wrap at_).tmod (IntKind.i64.wrap ((1 : Int) + (IntKind.i64.wrap count).tmod (↑l_Lines.length : Int)))).toNat []).getD 1 (0 : Int))
 ((l_Lines.getD ((IntKind.i64.wrap at_).tmod (IntKind.i64.wrap ((1 : Int) + (IntKind.i64.wrap count).tmod (↑l_Lines.length : Int)))).toNat []).getD 2 (0 : Int))
 ((l_Lines.getD ((IntKind.i64.wrap at_).tmod (IntKind.i64.wrap ((1 : Int) + (IntKind.i64.wrap count).tmod (↑l_Lines.length : Int)))).toNat []).getD 3 (0 : Int)) which n
noncomputable def xao (l_Owner count cut at_ which n : Int) (l_Lines : List (List Int)) : Int :=
 xcv ((l_Lines.getD ((IntKind.i64.wrap at_).tmod (IntKind.i64.wrap ((1 : Int) + (IntKind.i64.wrap count).tmod (↑l_Lines.length : Int)))).toNat []).getD 0 (0 : Int))
 ((l_Lines.getD ((IntKind.i64.wrap at_).tmod (IntKind.i64.wrap ((1 : Int) + (IntKind.i64.wrap count).tmod (↑l_Lines.length : Int)))).toNat []).getD 1 (0 : Int))
 ((l_Lines.getD ((IntKind.i64.wrap at_).tmod (IntKind.i64.wrap ((1 : Int) + (IntKind.i64.wrap count).tmod (↑l_Lines.length : Int)))).toNat []).getD 2 (0 : Int))
 ((l_Lines.getD ((IntKind.i64.wrap at_).tmod (IntKind.i64.wrap ((1 : Int) + (IntKind.i64.wrap count).tmod (↑l_Lines.length : Int)))).toNat []).getD 3 (0 : Int)) which n
noncomputable def xan (l_Owner count cut at_ which n : Int) (l_Lines : List (List Int)) : Int :=
 xdW ((l_Lines.getD ((IntKind.i64.wrap at_).tmod (IntKind.i64.wrap ((1 : Int) + (IntKind.i64.wrap count).tmod (↑l_Lines.length : Int)))).toNat []).getD 0 (0 : Int))
 ((l_Lines.getD ((IntKind.i64.wrap at_).tmod (IntKind.i64.wrap ((1 : Int) + (IntKind.i64.wrap count).tmod (↑l_Lines.length : Int)))).toNat []).getD 1 (0 : Int))
 ((l_Lines.getD ((IntKind.i64.wrap at_).tmod (IntKind.i64.wrap ((1 : Int) + (IntKind.i64.wrap count).tmod (↑l_Lines.length : Int)))).toNat []).getD 2 (0 : Int))
 ((l_Lines.getD ((IntKind.i64.wrap at_).tmod (IntKind.i64.wrap ((1 : Int) + (IntKind.i64.wrap count).tmod (↑l_Lines.length : Int)))).toNat []).getD 3 (0 : Int)) which n
noncomputable def xcF (l_Owner count cut at_ which n : Int) (l_Lines : List (List Int)) : Int :=
 IntKind.i64.wrap ((1 : Int) + (IntKind.i64.wrap count).tmod (↑l_Lines.length : Int)) -
 (↑((xag (↑l_Lines.length : Int) none (some ((xai l_Owner count cut at_ which n l_Lines)))).snd.snd.toNat - loN (xag (↑l_Lines.length : Int) none (some ((xai l_Owner count cut at_ which n l_Lines)))).snd.fst) : Int)
noncomputable def xdu (l_Owner count cut at_ which n : Int) (l_Lines : List (List Int)) : Int :=
 bif
  decide
   ((↑((xag (↑l_Lines.length : Int) none (some ((xai l_Owner count cut at_ which n l_Lines)))).snd.snd.toNat - loN (xag (↑l_Lines.length : Int) none (some ((xai l_Owner count cut at_ which n l_Lines)))).snd.fst) : Int) > (0 : Int)) then
 (l_Lines.getD (shI (xag (↑l_Lines.length : Int) none (some ((xai l_Owner count cut at_ which n l_Lines)))).snd.fst (IntKind.i64.wrap ((xaE l_Owner count cut at_ which n l_Lines)))).toNat []).getD 3 (0 : Int)
else (0 : Int)
noncomputable def xdj (l_Owner count cut at_ which n : Int) (l_Lines : List (List Int)) : Int :=
 bif
  decide
   ((↑((xag (↑l_Lines.length : Int) none (some ((xai l_Owner count cut at_ which n l_Lines)))).snd.snd.toNat - loN (xag (↑l_Lines.length : Int) none (some ((xai l_Owner count cut at_ which n l_Lines)))).snd.fst) : Int) > (0 : Int)) then
 (l_Lines.getD (shI (xag (↑l_Lines.length : Int) none (some ((xai l_Owner count cut at_ which n l_Lines)))).snd.fst (IntKind.i64.wrap ((xaE l_Owner count cut at_ which n l_Lines)))).toNat []).getD 0 (0 : Int)
else (-1 : Int)
noncomputable def xek (l_Owner count cut at_ which n : Int) (l_Lines : List (List Int)) : Int :=
 bif
  IntKind.i64.wrap ((xcF l_Owner count cut at_ which n l_Lines)) == (0 : Int) &&
    (xdu l_Owner count cut at_ which n l_Lines) != (l_Lines.getD (IntKind.i64.wrap (IntKind.i64.wrap ((1 : Int) + (IntKind.i64.wrap count).tmod (↑l_Lines.length : Int)) - (1 : Int))).toNat []).getD 3 (0 : Int) ||
   decide
    ((xdj l_Owner count cut at_ which n l_Lines) >
     (l_Lines.getD (IntKind.i64.wrap (IntKind.i64.wrap ((1 : Int) + (IntKind.i64.wrap count).tmod (↑l_Lines.length : Int)) - (1 : Int))).toNat []).getD 0 (0 : Int)) then
 (18 : Int)
else (0 : Int)
noncomputable def xdi (l_Owner count cut at_ which n : Int) (l_Lines : List (List Int)) : Int :=
 bif
  (!bif decide (l_Owner < (0 : Int)) || decide (l_Owner > (8 : Int)) || decide ((xbg l_Owner count cut at_ which n l_Lines) > (200 : Int)) then false
        else bif (xa5 l_Owner count cut at_ which n l_Lines).fst.beq 1 then false else bif (xa5 l_Owner count cut at_ which n l_Lines).fst.beq 2 then false else true) ||
       !xav
         ((l_Lines.getD (IntKind.i64.wrap (IntKind.i64.wrap ((1 : Int) + (IntKind.i64.wrap count).tmod (↑l_Lines.length : Int)) - (1 : Int))).toNat []).getD 0 (0 : Int)) ||
      l_Owner != l_Owner ||
     decide (IntKind.i64.wrap ((1 : Int) + (IntKind.i64.wrap count).tmod (↑l_Lines.length : Int)) < (0 : Int)) ||
    decide (IntKind.i64.wrap ((1 : Int) + (IntKind.i64.wrap count).tmod (↑l_Lines.length : Int)) > (200 : Int)) ||
   IntKind.i64.wrap ((1 : Int) + (IntKind.i64.wrap count).tmod (↑l_Lines.length : Int)) == (0 : Int) &&
    (l_Lines.getD (IntKind.i64.wrap (IntKind.i64.wrap ((1 : Int) + (IntKind.i64.wrap count).tmod (↑l_Lines.length : Int)) - (1 : Int))).toNat []).getD 3 (0 : Int) != (0 : Int) then
 (1 : Int)
else (xek l_Owner count cut at_ which n l_Lines)
noncomputable def xej (l_Owner count cut at_ which n : Int) (l_Lines : List (List Int)) : Int :=
 bif
  IntKind.i64.wrap ((xcF l_Owner count cut at_ which n l_Lines)) == (0 : Int) &&
    (xdu l_Owner count cut at_ which n l_Lines) != (l_Lines.getD (IntKind.i64.wrap (IntKind.i64.wrap ((1 : Int) + (IntKind.i64.wrap count).tmod (↑l_Lines.length : Int)) - (1 : Int))).toNat []).getD 3 (0 : Int) ||
   decide
    ((xdj l_Owner count cut at_ which n l_Lines) >
     (l_Lines.getD (IntKind.i64.wrap (IntKind.i64.wrap ((1 : Int) + (IntKind.i64.wrap count).tmod (↑l_Lines.length : Int)) - (1 : Int))).toNat []).getD 0 (0 : Int)) then
 (0 : Int)
else IntKind.i64.wrap ((xcF l_Owner count cut at_ which n l_Lines))
noncomputable def xdh (l_Owner count cut at_ which n : Int) (l_Lines : List (List Int)) : Int :=
 bif
  (!bif decide (l_Owner < (0 : Int)) || decide (l_Owner > (8 : Int)) || decide ((xbg l_Owner count cut at_ which n l_Lines) > (200 : Int)) then false
        else bif (xa5 l_Owner count cut at_ which n l_Lines).fst.beq 1 then false else bif (xa5 l_Owner count cut at_ which n l_Lines).fst.beq 2 then false else true) ||
       !xav
         ((l_Lines.getD (IntKind.i64.wrap (IntKind.i64.wrap ((1 : Int) + (IntKind.i64.wrap count).tmod (↑l_Lines.length : Int)) - (1 : Int))).toNat []).getD 0 (0 : Int)) ||
      l_Owner != l_Owner ||
     decide (IntKind.i64.wrap ((1 : Int) + (IntKind.i64.wrap count).tmod (↑l_Lines.length : Int)) < (0 : Int)) ||
    decide (IntKind.i64.wrap ((1 : Int) + (IntKind.i64.wrap count).tmod (↑l_Lines.length : Int)) > (200 : Int)) ||
   IntKind.i64.wrap ((1 : Int) + (IntKind.i64.wrap count).tmod (↑l_Lines.length : Int)) == (0 : Int) &&
    (l_Lines.getD (IntKind.i64.wrap (IntKind.i64.wrap ((1 : Int) + (IntKind.i64.wrap count).tmod (↑l_Lines.length : Int)) - (1 : Int))).toNat []).getD 3 (0 : Int) != (0 : Int) then
 (0 : Int)
else (xej l_Owner count cut at_ which n l_Lines)
noncomputable def xei (l_Owner count cut at_ which n : Int) (l_Lines : List (List Int)) : Int :=
 xdQ
 (xcE l_Owner ((IntKind.i64.wrap at_).tmod (IntKind.i64.wrap ((1 : Int) + (IntKind.i64.wrap count).tmod (↑l_Lines.length : Int)))) ((xaq l_Owner count cut at_ which n l_Lines)) ((xap l_Owner count cut at_ which n l_Lines))
  ((xao l_Owner count cut at_ which n l_Lines)) ((xan l_Owner count cut at_ which n l_Lines)) l_Lines)
 l_Owner ((l_Lines.getD (IntKind.i64.wrap (IntKind.i64.wrap ((1 : Int) + (IntKind.i64.wrap count).tmod (↑l_Lines.length : Int)) - (1 : Int))).toNat []).getD 0 (0 : Int))
 (IntKind.i64.wrap ((1 : Int) + (IntKind.i64.wrap count).tmod (↑l_Lines.length : Int)))
 ((l_Lines.getD (IntKind.i64.wrap (IntKind.i64.wrap ((1 : Int) + (IntKind.i64.wrap count).tmod (↑l_Lines.length : Int)) - (1 : Int))).toNat []).getD 3 (0 : Int))
 (xbd l_Owner ((IntKind.i64.wrap at_).tmod (IntKind.i64.wrap ((1 : Int) + (IntKind.i64.wrap count).tmod (↑l_Lines.length : Int)))) ((xaq l_Owner count cut at_ which n l_Lines)) ((xap l_Owner count cut at_ which n l_Lines))
  ((xao l_Owner count cut at_ which n l_Lines)) ((xan l_Owner count cut at_ which n l_Lines)) l_Lines)
noncomputable def xcW (l_Owner count cut at_ which n : Int) (l_Lines : List (List Int)) : Bool :=
 bif (↑l_Lines.length : Int) == (0 : Int) || !xab l_Owner l_Lines then xeF
else
 bif
   (xaq l_Owner count cut at_ which n l_Lines) == (l_Lines.getD ((IntKind.i64.wrap at_).tmod (IntKind.i64.wrap ((1 : Int) + (IntKind.i64.wrap count).tmod (↑l_Lines.length : Int)))).toNat []).getD 0 (0 : Int) &&
     ((xap l_Owner count cut at_ which n l_Lines) ==
       (l_Lines.getD ((IntKind.i64.wrap at_).tmod (IntKind.i64.wrap ((1 : Int) + (IntKind.i64.wrap count).tmod (↑l_Lines.length : Int)))).toNat []).getD 1 (0 : Int) &&
      ((xao l_Owner count cut at_ which n l_Lines) ==
        (l_Lines.getD ((IntKind.i64.wrap at_).tmod (IntKind.i64.wrap ((1 : Int) + (IntKind.i64.wrap count).tmod (↑l_Lines.length : Int)))).toNat []).getD 2 (0 : Int) &&
       ((xan l_Owner count cut at_ which n l_Lines) ==
         (l_Lines.getD ((IntKind.i64.wrap at_).tmod (IntKind.i64.wrap ((1 : Int) + (IntKind.i64.wrap count).tmod (↑l_Lines.length : Int)))).toNat []).getD 3 (0 : Int) &&
        true))) ||
    !xab
      (xcE l_Owner ((IntKind.i64.wrap at_).tmod (IntKind.i64.wrap ((1 : Int) + (IntKind.i64.wrap count).tmod (↑l_Lines.length : Int)))) ((xaq l_Owner count cut at_ which n l_Lines)) ((xap l_Owner count cut at_ which n l_Lines))
       ((xao l_Owner count cut at_ which n l_Lines)) ((xan l_Owner count cut at_ which n l_Lines)) l_Lines)
      (xbd l_Owner ((IntKind.i64.wrap at_).tmod (IntKind.i64.wrap ((1 : Int) + (IntKind.i64.wrap count).tmod (↑l_Lines.length : Int)))) ((xaq l_Owner count cut at_ which n l_Lines)) ((xap l_Owner count cut at_ which n l_Lines))
       ((xao l_Owner count cut at_ which n l_Lines)) ((xan l_Owner count cut at_ which n l_Lines)) l_Lines) then
  xeF && (xdi l_Owner count cut at_ which n l_Lines) == (0 : Int) &&
   (xdh l_Owner count cut at_ which n l_Lines) ==
    imax (0 : Int)
     (IntKind.i64.wrap
      (IntKind.i64.wrap ((1 : Int) + (IntKind.i64.wrap count).tmod (↑l_Lines.length : Int)) - (IntKind.i64.wrap cut).tmod (IntKind.i64.wrap ((↑l_Lines.length : Int) + (1 : Int)))))
 else
  xeF && (xdi l_Owner count cut at_ which n l_Lines) == (0 : Int) &&
    (xdh l_Owner count cut at_ which n l_Lines) ==
     imax (0 : Int)
      (IntKind.i64.wrap
       (IntKind.i64.wrap ((1 : Int) + (IntKind.i64.wrap count).tmod (↑l_Lines.length : Int)) - (IntKind.i64.wrap cut).tmod (IntKind.i64.wrap ((↑l_Lines.length : Int) + (1 : Int))))) &&
   (xei l_Owner count cut at_ which n l_Lines) == (18 : Int)
def xbI (l_Owner count cut at_ which n : Int) (l_Lines : List (List Int)) : Prop :=
 ((xd9) ∧ (((((↑l_Lines.length : Int) == (0 : Int)) = false) → (xaA l_Owner l_Lines)) ∧ ((((↑l_Lines.length : Int) == (0 : Int) || !xab l_Owner l_Lines) = false) → ((((↑l_Lines.length : Int) : Int) ≠ (0 : Int)) ∧ ((inR (IntKind.i64.wrap (IntKind.i64.wrap ((1 : Int) + (IntKind.i64.wrap count).tmod (↑l_Lines.length : Int)) - (1 : Int))) l_Lines) ∧ ((inR (IntKind.i64.wrap (IntKind.i64.wrap ((1 : Int) + (IntKind.i64.wrap count).tmod (↑l_Lines.length : Int)) - (1 : Int))) l_Lines) ∧ ((inR (IntKind.i64.wrap (IntKind.i64.wrap ((1 : Int) + (IntKind.i64.wrap count).tmod (↑l_Lines.length : Int)) - (1 : Int))) l_Lines) ∧ ((inR (IntKind.i64.wrap (IntKind.i64.wrap ((1 : Int) + (IntKind.i64.wrap count).tmod (↑l_Lines.length : Int)) - (1 : Int))) l_Lines) ∧ ((inR (IntKind.i64.wrap (IntKind.i64.wrap ((1 : Int) + (IntKind.i64.wrap count).tmod (↑l_Lines.length : Int)) - (1 : Int))) l_Lines) ∧ ((inR (IntKind.i64.wrap (IntKind.i64.wrap ((1 : Int) + (IntKind.i64.wrap count).tmod (↑l_Lines.length : Int)) - (1 : Int))) l_Lines) ∧ (((IntKind.i64.wrap ((↑l_Lines.length : Int) + (1 : Int)) : Int) ≠ (0 : Int)) ∧ ((((0 : Int) ≤ (IntKind.i64.wrap cut).tmod (IntKind.i64.wrap ((↑l_Lines.length : Int) + (1 : Int)))) ∧ ((IntKind.i64.wrap cut).tmod (IntKind.i64.wrap ((↑l_Lines.length : Int) + (1 : Int))) ≤ (↑l_Lines.length : Int))) ∧ (((((decide (l_Owner < (0 : Int)) || decide (l_Owner > (8 : Int)) || decide ((xbg l_Owner count cut at_ which n l_Lines) > (200 : Int))) = false) → ((xaM (xbh l_Owner count cut at_ which n l_Lines) (xdn l_Owner count cut at_ which n l_Lines)))) ∧ ((((!bif decide (l_Owner < (0 : Int)) || decide (l_Owner > (8 : Int)) || decide ((xbg l_Owner count cut at_ which n l_Lines) > (200 : Int)) then false
       else bif (xa5 l_Owner count cut at_ which n l_Lines).fst.beq 1 then false else bif (xa5 l_Owner count cut at_ which n l_Lines).fst.beq 2 then false else true) ||
      !xav ((l_Lines.getD (IntKind.i64.wrap (IntKind.i64.wrap ((1 : Int) + (IntKind.i64.wrap count).tmod (↑l_Lines.length : Int)) - (1 : Int))).toNat []).getD 0 (0 : Int)) ||
     l_Owner != l_Owner ||
    decide (IntKind.i64.wrap ((1 : Int) + (IntKind.i64.wrap count).tmod (↑l_Lines.length : Int)) < (0 : Int)) ||
   decide (IntKind.i64.wrap ((1 : Int) + (IntKind.i64.wrap count).tmod (↑l_Lines.length : Int)) > (200 : Int)) ||
  IntKind.i64.wrap ((1 : Int) + (IntKind.i64.wrap count).tmod (↑l_Lines.length : Int)) == (0 : Int) &&
   (l_Lines.getD (IntKind.i64.wrap (IntKind.i64.wrap ((1 : Int) + (IntKind.i64.wrap count).tmod (↑l_Lines.length : Int)) - (1 : Int))).toNat []).getD 3 (0 : Int) != (0 : Int)) =
 false) → ((((0 : Int) ≤ (xai l_Owner count cut at_ which n l_Lines)) ∧ ((xai l_Owner count cut at_ which n l_Lines) ≤ (↑l_Lines.length : Int))) ∧ ((decide ((↑((xag (↑l_Lines.length : Int) none (some ((xai l_Owner count cut at_ which n l_Lines)))).snd.snd.toNat - loN (xag (↑l_Lines.length : Int) none (some ((xai l_Owner count cut at_ which n l_Lines)))).snd.fst) : Int) > (0 : Int)) =
 true) → ((((0 : Int) ≤ IntKind.i64.wrap ((xaE l_Owner count cut at_ which n l_Lines))) ∧ (((↑(loN (xag (↑l_Lines.length : Int) none (some ((xai l_Owner count cut at_ which n l_Lines)))).snd.fst) : Int) + IntKind.i64.wrap ((xaE l_Owner count cut at_ which n l_Lines)) <
 (xag (↑l_Lines.length : Int) none (some ((xai l_Owner count cut at_ which n l_Lines)))).snd.snd) ∧ ((xag (↑l_Lines.length : Int) none (some ((xai l_Owner count cut at_ which n l_Lines)))).snd.snd ≤ (↑l_Lines.length : Int)))) ∧ ((inR (shI (xag (↑l_Lines.length : Int) none (some ((xai l_Owner count cut at_ which n l_Lines)))).snd.fst (IntKind.i64.wrap ((xaE l_Owner count cut at_ which n l_Lines)))) l_Lines) ∧ ((inR (shI (xag (↑l_Lines.length : Int) none (some ((xai l_Owner count cut at_ which n l_Lines)))).snd.fst (IntKind.i64.wrap ((xaE l_Owner count cut at_ which n l_Lines)))) l_Lines) ∧ ((((0 : Int) ≤ IntKind.i64.wrap ((xaE l_Owner count cut at_ which n l_Lines))) ∧ (((↑(loN (xag (↑l_Lines.length : Int) none (some ((xai l_Owner count cut at_ which n l_Lines)))).snd.fst) : Int) + IntKind.i64.wrap ((xaE l_Owner count cut at_ which n l_Lines)) <
 (xag (↑l_Lines.length : Int) none (some ((xai l_Owner count cut at_ which n l_Lines)))).snd.snd) ∧ ((xag (↑l_Lines.length : Int) none (some ((xai l_Owner count cut at_ which n l_Lines)))).snd.snd ≤ (↑l_Lines.length : Int)))) ∧ ((inR (shI (xag (↑l_Lines.length : Int) none (some ((xai l_Owner count cut at_ which n l_Lines)))).snd.fst (IntKind.i64.wrap ((xaE l_Owner count cut at_ which n l_Lines)))) l_Lines) ∧ (inR (shI (xag (↑l_Lines.length : Int) none (some ((xai l_Owner count cut at_ which n l_Lines)))).snd.fst (IntKind.i64.wrap ((xaE l_Owner count cut at_ which n l_Lines)))) l_Lines)))))))))) ∧ (((IntKind.i64.wrap ((1 : Int) + (IntKind.i64.wrap count).tmod (↑l_Lines.length : Int)) : Int) ≠ (0 : Int)) ∧ ((inR ((IntKind.i64.wrap at_).tmod (IntKind.i64.wrap ((1 : Int) + (IntKind.i64.wrap count).tmod (↑l_Lines.length : Int)))) l_Lines) ∧ ((inR ((IntKind.i64.wrap at_).tmod (IntKind.i64.wrap ((1 : Int) + (IntKind.i64.wrap count).tmod (↑l_Lines.length : Int)))) l_Lines) ∧ ((xdM l_Owner ((IntKind.i64.wrap at_).tmod (IntKind.i64.wrap ((1 : Int) + (IntKind.i64.wrap count).tmod (↑l_Lines.length : Int)))) ((xaq l_Owner count cut at_ which n l_Lines)) ((xap l_Owner count cut at_ which n l_Lines))
 ((xao l_Owner count cut at_ which n l_Lines)) ((xan l_Owner count cut at_ which n l_Lines)) l_Lines) ∧ ((inR ((IntKind.i64.wrap at_).tmod (IntKind.i64.wrap ((1 : Int) + (IntKind.i64.wrap count).tmod (↑l_Lines.length : Int)))) l_Lines) ∧ ((inR ((IntKind.i64.wrap at_).tmod (IntKind.i64.wrap ((1 : Int) + (IntKind.i64.wrap count).tmod (↑l_Lines.length : Int)))) l_Lines) ∧ (((((xaq l_Owner count cut at_ which n l_Lines) == (l_Lines.getD ((IntKind.i64.wrap at_).tmod (IntKind.i64.wrap ((1 : Int) + (IntKind.i64.wrap count).tmod (↑l_Lines.length : Int)))).toNat []).getD 0 (0 : Int) &&
  ((xap l_Owner count cut at_ which n l_Lines) == (l_Lines.getD ((IntKind.i64.wrap at_).tmod (IntKind.i64.wrap ((1 : Int) + (IntKind.i64.wrap count).tmod (↑l_Lines.length : Int)))).toNat []).getD 1 (0 : Int) &&
   ((xao l_Owner count cut at_ which n l_Lines) == (l_Lines.getD ((IntKind.i64.wrap at_).tmod (IntKind.i64.wrap ((1 : Int) + (IntKind.i64.wrap count).tmod (↑l_Lines.length : Int)))).toNat []).getD 2 (0 : Int) &&
    ((xan l_Owner count cut at_ which n l_Lines) == (l_Lines.getD ((IntKind.i64.wrap at_).tmod (IntKind.i64.wrap ((1 : Int) + (IntKind.i64.wrap count).tmod (↑l_Lines.length : Int)))).toNat []).getD 3 (0 : Int) &&
     true)))) =
 false) → (xaA
 (xcE l_Owner ((IntKind.i64.wrap at_).tmod (IntKind.i64.wrap ((1 : Int) + (IntKind.i64.wrap count).tmod (↑l_Lines.length : Int)))) ((xaq l_Owner count cut at_ which n l_Lines)) ((xap l_Owner count cut at_ which n l_Lines))
  ((xao l_Owner count cut at_ which n l_Lines)) ((xan l_Owner count cut at_ which n l_Lines)) l_Lines)
 (xbd l_Owner ((IntKind.i64.wrap at_).tmod (IntKind.i64.wrap ((1 : Int) + (IntKind.i64.wrap count).tmod (↑l_Lines.length : Int)))) ((xaq l_Owner count cut at_ which n l_Lines)) ((xap l_Owner count cut at_ which n l_Lines))
  ((xao l_Owner count cut at_ which n l_Lines)) ((xan l_Owner count cut at_ which n l_Lines)) l_Lines))) ∧ ((((xaq l_Owner count cut at_ which n l_Lines) == (l_Lines.getD ((IntKind.i64.wrap at_).tmod (IntKind.i64.wrap ((1 : Int) + (IntKind.i64.wrap count).tmod (↑l_Lines.length : Int)))).toNat []).getD 0 (0 : Int) &&
   ((xap l_Owner count cut at_ which n l_Lines) == (l_Lines.getD ((IntKind.i64.wrap at_).tmod (IntKind.i64.wrap ((1 : Int) + (IntKind.i64.wrap count).tmod (↑l_Lines.length : Int)))).toNat []).getD 1 (0 : Int) &&
    ((xao l_Owner count cut at_ which n l_Lines) == (l_Lines.getD ((IntKind.i64.wrap at_).tmod (IntKind.i64.wrap ((1 : Int) + (IntKind.i64.wrap count).tmod (↑l_Lines.length : Int)))).toNat []).getD 2 (0 : Int) &&
     ((xan l_Owner count cut at_ which n l_Lines) ==
       (l_Lines.getD ((IntKind.i64.wrap at_).tmod (IntKind.i64.wrap ((1 : Int) + (IntKind.i64.wrap count).tmod (↑l_Lines.length : Int)))).toNat []).getD 3 (0 : Int) &&
      true))) ||
  !xab
    (xcE l_Owner ((IntKind.i64.wrap at_).tmod (IntKind.i64.wrap ((1 : Int) + (IntKind.i64.wrap count).tmod (↑l_Lines.length : Int)))) ((xaq l_Owner count cut at_ which n l_Lines)) ((xap l_Owner count cut at_ which n l_Lines))
     ((xao l_Owner count cut at_ which n l_Lines)) ((xan l_Owner count cut at_ which n l_Lines)) l_Lines)
    (xbd l_Owner ((IntKind.i64.wrap at_).tmod (IntKind.i64.wrap ((1 : Int) + (IntKind.i64.wrap count).tmod (↑l_Lines.length : Int)))) ((xaq l_Owner count cut at_ which n l_Lines)) ((xap l_Owner count cut at_ which n l_Lines))
     ((xao l_Owner count cut at_ which n l_Lines)) ((xan l_Owner count cut at_ which n l_Lines)) l_Lines)) =
 false) → (xdd
 (xcE l_Owner ((IntKind.i64.wrap at_).tmod (IntKind.i64.wrap ((1 : Int) + (IntKind.i64.wrap count).tmod (↑l_Lines.length : Int)))) ((xaq l_Owner count cut at_ which n l_Lines)) ((xap l_Owner count cut at_ which n l_Lines))
  ((xao l_Owner count cut at_ which n l_Lines)) ((xan l_Owner count cut at_ which n l_Lines)) l_Lines)
 l_Owner ((l_Lines.getD (IntKind.i64.wrap (IntKind.i64.wrap ((1 : Int) + (IntKind.i64.wrap count).tmod (↑l_Lines.length : Int)) - (1 : Int))).toNat []).getD 0 (0 : Int))
 (IntKind.i64.wrap ((1 : Int) + (IntKind.i64.wrap count).tmod (↑l_Lines.length : Int)))
 ((l_Lines.getD (IntKind.i64.wrap (IntKind.i64.wrap ((1 : Int) + (IntKind.i64.wrap count).tmod (↑l_Lines.length : Int)) - (1 : Int))).toNat []).getD 3 (0 : Int))
 (xbd l_Owner ((IntKind.i64.wrap at_).tmod (IntKind.i64.wrap ((1 : Int) + (IntKind.i64.wrap count).tmod (↑l_Lines.length : Int)))) ((xaq l_Owner count cut at_ which n l_Lines)) ((xap l_Owner count cut at_ which n l_Lines))
  ((xao l_Owner count cut at_ which n l_Lines)) ((xan l_Owner count cut at_ which n l_Lines)) l_Lines)))))))))))))))))))))))
end Go.Proofs.YtikhnofbbcmpeaaGreat
set_option maxRecDepth 100000
set_option linter.unusedVariables false
namespace Go.Proofs.YtikhnofbbcmpeaaGreat
open Go Go.Sy
theorem xjG (l_Owner count cut at_ which n : Int) (l_Lines : List (List Int)) : xay Tryz.prog 1 (xa8 Tryz.prog K45 xdm 9 11 [.agg [.int .i64 l_Owner, .sl 0], .int .u8 count, .int .u8 cut, .int .u8 at_, .int .u8 which, .int .i64 n] ⟨[⟨0, 1, false, .row 29 [.int .i64, .int .i64, .int .i64, .int .u64] l_Lines⟩], 1⟩) = some ⟨some (xbI l_Owner count cut at_ which n l_Lines), [], 0, [], .bool (xcW l_Owner count cut at_ which n l_Lines)⟩ := by kernel_rfl
noncomputable def xfO : List U → Option Eff
 | [.i l_Owner, .i count, .i cut, .i at_, .i which, .i n, .r l_Lines] => some ⟨some (xbI l_Owner count cut at_ which n l_Lines), [], 0, [], .bool (xcW l_Owner count cut at_ which n l_Lines)⟩
 | _ => Option.none
noncomputable def K46 : Con := ext Tryz.prog K45 11 [.agg [.int .i64 0, .sl 0], .int .u8 0, .int .u8 0, .int .u8 0, .int .u8 0, .int .i64 0] [⟨0, 0, false, .row 29 [.int .i64, .int .i64, .int .i64, .int .u64] []⟩] xfO
theorem xAr : xbv Tryz.prog K46 := xaB xaI xAs (n := 9) rfl rfl fun us x h => by
 unfold xfO at h
 split at h
 ·cases h; exact ⟨some (xbI _ _ _ _ _ _ _), xjG _ _ _ _ _ _ _, fun h => h⟩
 ·cases h
end Go.Proofs.YtikhnofbbcmpeaaGreat
set_option linter.unusedVariables false
set_option maxRecDepth 100000
namespace Go.Proofs.YtikhnofbbcmpeaaGreat
open Go Go.Sy
def runL {σ : Type} (f : σ → List Int → σ ⊕ (Nat × List U)) : σ → List (List Int) → σ ⊕ (Nat × List U)
 | s, [] => .inl s
 | s, x :: r => match f s x with
  | .inl s' => runL f s' r
  | .inr o => .inr o
def goOn {σ : Type} (mk : σ → List U) : σ ⊕ (Nat × List U) → Option (Nat × List U)
 | .inl s => some (0, mk s)
 | .inr o => some (o.1 + 1, o.2)
def endL {σ : Type} (fin : σ → Nat × List U) : σ ⊕ (Nat × List U) → Nat × List U
 | .inl s => ((fin s).1 + 1, (fin s).2)
 | .inr o => (o.1 + 1, o.2)
theorem xdL {σ : Type} {step : List U → Option (Nat × List U)} (l : List (List Int)) (mk : Nat → σ → List U) (f : σ → List Int → σ ⊕ (Nat × List U)) (I : Nat → σ → Prop) (fin : σ → Nat × List U) (k0 : Nat)
  (hs : ∀ i s (hi : i < l.length), k0 ≤ i → I i s → step (mk i s) = goOn (mk (i + 1)) (f s l[i]) ∧ ∀ s', f s l[i] = .inl s' → I (i + 1) s')
  (he : ∀ i s, i = max k0 l.length → I i s → step (mk i s) = some ((fin s).1 + 1, (fin s).2)) {s : σ} (h0 : I k0 s) :
  xaM step (mk k0 s) ∧ xaC step (mk k0 s) = endL fin (runL f s (l.drop k0)) := by
 have key : ∀ m i s, i + m = l.length → k0 ≤ i → I i s → xg6 step (m + 1) (mk i s) = some (endL fin (runL f s (l.drop i))) := by
  intro m
  induction m with
  | zero =>
   intro i s hi hk h
   rw [List.drop_eq_nil_of_le (by omega)]
   exact xiW (he i s (by omega) h)
  | succ m ih =>
   intro i s hi hk h
   obtain ⟨h1, h2⟩ := hs i s (by omega) hk h
   rw [List.drop_eq_getElem_cons (by omega : i < l.length)]
   unfold runL
   cases hf : f s l[i] with
   | inl s' =>
    rw [hf] at h1
    exact xij h1 (ih (i + 1) s' (by omega) (by omega) (h2 s' hf))
   | inr o =>
    rw [hf] at h1
    unfold xg6
    rw [h1]; rfl
 by_cases hk : k0 ≤ l.length
 ·exact xls (key (l.length - k0) k0 s (by omega) (Nat.le_refl _) h0)
 ·rw [List.drop_eq_nil_of_le (by omega)]
  exact xls (xiW (he k0 s (by omega) h0))
theorem xbq {l : List (List Int)} {i : Nat} (hi : i < l.length) : l.getD i [] = l[i] := by rw [List.getD_eq_getElem?_getD, List.getElem?_eq_getElem hi]; rfl
theorem xbp {l : List (List Int)} {i : Nat} (hi : i < l.length) : l.getD (i : Int).toNat [] = l[i] := by rw [Int.toNat_natCast]; exact xbq hi
theorem xeA {i : Nat} (h : i < 9223372036854775807) : IntKind.i64.wrap ((i : Int) + 1) = ((i + 1 : Nat) : Int) := by
 rw [xc2 (by omega)]; rfl
theorem xiU {step : List U → Option (Nat × List U)} {l : List (List Int)} {p : List Int → Bool} (m : Nat) (hs : ∀ i (hi : i < l.length), step [.i 0, .i i] = bif p l[i] then some (1, [.i i]) else some (0, [.i 0, .i ((i + 1 : Nat) : Int)]))
  (he : step [.i 0, .i l.length] = some (m + 2, [.i 0, .i l.length])) {init : List U} (hi : init = [.i 0, .i ((0 : Nat) : Int)]) :
  xaM step init ∧ decide ((bif (xaC step init).fst.beq 1 then gi (xaC step init).snd 0 else (-1 : Int)) ≥ 0) = l.any p := by
 subst hi
 obtain ⟨h1, h2⟩ := xg5 (step := step) l.length (fun i => p (l.getD i [])) (fun i => [.i 0, .i i]) (fun i => [.i i]) 0 (m + 1) [.i 0, .i l.length]
  (fun i hi => by rw [hs i hi, xbq hi]) he
 refine ⟨h1, ?_⟩
 rcases h2 with ⟨i, hi, hp, _, hg⟩ | ⟨hn, hg⟩
 ·rw [hg]
  have : l.any p = true := List.any_eq_true.2 ⟨l[i], List.getElem_mem hi, by rw [← xbq hi]; exact hp⟩
  rw [this]
  show decide ((bif true then gi [.i (i : Int)] 0 else (-1 : Int)) ≥ 0) = true
  rw [cond_true, gi_z]
  exact decide_eq_true (by omega)
 ·rw [hg]
  have : l.any p = false := List.any_eq_false.2 fun x hx => by
   obtain ⟨i, hi, rfl⟩ := List.getElem_of_mem hx
   have := hn i hi
   simp only [xbq hi] at this
   simp [this]
  rw [this]
  show decide ((bif Nat.beq (m + 1 + 1) 1 then gi [.i 0, .i (l.length : Int)] 0 else (-1 : Int)) ≥ 0) = false
  rfl
def mixD (h x : Int) : Int :=
 bXor IntKind.u64 (IntKind.u64.wrap (bXor IntKind.u64 h (IntKind.u64.wrap x) * 11507291218515648293)) ((IntKind.u64.wrap (bXor IntKind.u64 h (IntKind.u64.wrap x) * 11507291218515648293)).fdiv ((2 : Int) ^ min (Int.toNat (32 : Int)) IntKind.u64.bits))
def digF (l : List Int) : Int := l.foldl mixD (IntKind.u64.wrap (11400714819323198485 + IntKind.u64.wrap l.length))
theorem xho {σ : Type} (g : σ → List Int → σ) : ∀ (l : List (List Int)) (s : σ), runL (fun s x => .inl (g s x)) s l = .inl (l.foldl g s)
 | [], s => rfl
 | x :: r, s => xho g r (g s x)
theorem xsR (l : List (List Int)) (hl : l.length ≤ 9223372036854775807) : xcf l ∧ xc6 l = digF (l.map fun x => x.getD 0 0) := by
 obtain ⟨h1, h2⟩ := xdL (step := xcZ l) l (fun i (s : Int) => [.i s, .i i]) (fun s x => .inl (mixD s (x.getD 0 0))) (fun _ _ => True) (fun s => (1, [.i s, .i (l.length : Int)])) 0
  (fun i s hi _ _ => ⟨by
   unfold xcZ xkt
   simp only [gi_z, gi_1, dlt hi, xaa (xaK hi), xaa (show (0 : Int) ≤ 32 by decide), xeA (show i < 9223372036854775807 by omega), xbp hi]
   rfl, fun _ _ => trivial⟩)
  (fun i s hi _ => by
   have : i = l.length := by omega
   subst this
   unfold xcZ
   simp only [gi_z, gi_1, dnlt]) (s := IntKind.u64.wrap (11400714819323198485 + IntKind.u64.wrap l.length)) trivial
 refine ⟨h1, ?_⟩
 unfold xc6 xku
 have hi : xe0 l = [.i (IntKind.u64.wrap (11400714819323198485 + IntKind.u64.wrap l.length)), .i ((0 : Nat) : Int)] := rfl
 rw [hi, h2, List.drop_zero, xho]
 unfold digF
 rw [List.foldl_map, List.length_map]
 rfl
def sumF (owner last t k n : Int) : Int := digF [owner, IntKind.i64.wrap last, t, k, n]
theorem xqh (owner last t k n s : Int) : xbz owner last t k n s ∧ xbQ owner last t k n s = sumF owner last t k n := xsR _ (by simp)
def clsF (k : Int) : Int := if k = 1 then 1 else if k = 2 ∨ k = 3 then 2 else if k = 4 ∨ k = 5 then 3 else 0
theorem bne {a b : Int} (h : ¬ a = b) : (a == b) = false := beq_eq_false_iff_ne.2 h
theorem xmz (k : Int) : xbL k = clsF k := by
 unfold xbL xjr xjq clsF
 by_cases h1 : k = 1
 ·subst h1; rfl
 by_cases h2 : k = 2
 ·subst h2; rfl
 by_cases h3 : k = 3
 ·subst h3; rfl
 by_cases h4 : k = 4
 ·subst h4; rfl
 by_cases h5 : k = 5
 ·subst h5; rfl
 rw [bne h1, bne h2, bne h3, bne h4, bne h5, if_neg h1, if_neg (by simp [h2, h3]), if_neg (by simp [h4, h5])]
 rfl
def tmF (t : Int) : Bool := decide (0 ≤ t) && decide (t ≤ 10000000)
def itF (n : Int) : Bool := decide (1 ≤ n) && decide (n ≤ 10000)
def lnF (t k n : Int) : Bool := if clsF k = 0 then false else if clsF k = 3 then tmF t && n == 0 else tmF t && itF n
def ownF (owner k : Int) : Bool := (owner == 0) == (clsF k == 1)
theorem xjJ (t : Int) : xav t = tmF t := rfl
theorem xwN (t : Int) : xe4 t = itF t := rfl
theorem xtG (t k n : Int) : xbB t k n = lnF t k n := by
 unfold xbB lnF
 rw [xmz, xjJ, xwN]
 by_cases h0 : clsF k = 0
 ·rw [h0]; rfl
 ·by_cases h3 : clsF k = 3
  ·rw [h3]; rfl
  ·rw [bne h0, bne h3, if_neg h0, if_neg h3]; rfl
theorem xwl (o k : Int) : xa9 o k = ownF o k := by unfold xa9 ownF; rw [xmz]
end Go.Proofs.YtikhnofbbcmpeaaGreat
set_option linter.unusedVariables false
set_option maxRecDepth 100000
namespace Go.Proofs.YtikhnofbbcmpeaaGreat
open Go Go.Sy
abbrev col (x : List Int) (j : Nat) : Int := x.getD j 0
def vldF (o : Int) : Bool → Int → Int → List (List Int) → Bool
 | _, _, _, [] => true
 | off, last, now, x :: r =>
  if (!lnF (col x 0) (col x 1) (col x 2) || !ownF o (col x 1) || decide (col x 0 < now) || col x 3 != sumF o last (col x 0) (col x 1) (col x 2)) = true then false
  else if clsF (col x 1) = 3 then (if off = (col x 1 == 4) then false else vldF o (!off) (col x 3) (col x 0) r)
  else vldF o off (col x 3) (col x 0) r
def valF (o : Int) (l : List (List Int)) : Bool := decide (0 ≤ o) && decide (o ≤ 8) && decide (l.length ≤ 200) && vldF o false 0 0 l
def xkL (o : Int) (s : Bool × Int × Int) (x : List Int) : (Bool × Int × Int) ⊕ (Nat × List U) :=
 if (!lnF (col x 0) (col x 1) (col x 2) || !ownF o (col x 1) || decide (col x 0 < s.2.2) || col x 3 != sumF o s.2.1 (col x 0) (col x 1) (col x 2)) = true then .inr (0, [])
 else if clsF (col x 1) = 3 then (if s.1 = (col x 1 == 4) then .inr (1, []) else .inl (!s.1, col x 3, col x 0))
 else .inl (s.1, col x 3, col x 0)
theorem xlO (o : Int) (n : Int) : ∀ (l : List (List Int)) (s : Bool × Int × Int),
  (bif (endL (fun s : Bool × Int × Int => (4, [.b false, .b s.1, .i s.2.1, .i s.2.2, .i n])) (runL (xkL o) s l)).1.beq 1 then false else bif (endL (fun s : Bool × Int × Int => (4, [.b false, .b s.1, .i s.2.1, .i s.2.2, .i n])) (runL (xkL o) s l)).1.beq 2 then false else true) = vldF o s.1 s.2.1 s.2.2 l
 | [], s => rfl
 | x :: r, s => by
  unfold runL vldF
  by_cases h1 : (!lnF (col x 0) (col x 1) (col x 2) || !ownF o (col x 1) || decide (col x 0 < s.2.2) || col x 3 != sumF o s.2.1 (col x 0) (col x 1) (col x 2)) = true
  ·have e : xkL o s x = .inr (0, []) := by unfold xkL; rw [if_pos h1]
   rw [e, if_pos h1]; rfl
  ·rw [if_neg h1]
   by_cases h2 : clsF (col x 1) = 3
   ·rw [if_pos h2]
    by_cases h3 : s.1 = (col x 1 == 4)
    ·have e : xkL o s x = .inr (1, []) := by unfold xkL; rw [if_neg h1, if_pos h2, if_pos h3]
     rw [e, if_pos h3]; rfl
    ·have e : xkL o s x = .inl (!s.1, col x 3, col x 0) := by unfold xkL; rw [if_neg h1, if_pos h2, if_neg h3]
     rw [e, if_neg h3]
     exact xlO o n r _
   ·have e : xkL o s x = .inl (s.1, col x 3, col x 0) := by unfold xkL; rw [if_neg h1, if_neg h2]
    rw [e, if_neg h2]
    exact xlO o n r _
theorem xu8 (o : Int) (l : List (List Int)) (hl : l.length ≤ 9223372036854775807) : xaM (xbW o l) (xeJ o l) ∧ xgv o l = endL (fun s : Bool × Int × Int => (4, [.b false, .b s.1, .i s.2.1, .i s.2.2, .i l.length])) (runL (xkL o) (false, 0, 0) l) := by
 have h := xdL (step := xbW o l) l (fun i (s : Bool × Int × Int) => [.b false, .b s.1, .i s.2.1, .i s.2.2, .i i]) (xkL o) (fun _ _ => True) (fun s => (4, [.b false, .b s.1, .i s.2.1, .i s.2.2, .i l.length])) 0
  (fun i s hi _ _ => ⟨by
   unfold xbW xjs
   simp only [gi_4, gi_3, gi_2, gi_1, gi_z, gb_1, gb_z, dlt hi, xaa (xaK hi), xeA (show i < 9223372036854775807 by omega), xbp hi, xtG, xwl, (xqh _ _ _ _ _ _).2, xmz]
   rw [xaa (fun _ => (xqh _ _ _ _ _ _).1)]
   generalize l[i] = x
   unfold xkL
   cases h1 : (!lnF (col x 0) (col x 1) (col x 2) || !ownF o (col x 1) || decide (col x 0 < s.2.2) || col x 3 != sumF o s.2.1 (col x 0) (col x 1) (col x 2)) with
   | true => rw [if_pos rfl]; rfl
   | false =>
    rw [if_neg (by decide), cond_false]
    by_cases h2 : clsF (col x 1) = 3
    ·rw [if_pos h2, h2]
     by_cases h3 : s.1 = (col x 1 == 4)
     ·rw [if_pos h3, h3]; simp only [beq_self_eq_true, cond_true]; rfl
     ·rw [if_neg h3]
      have : (s.1 == (col x 1 == 4)) = false := by simpa using h3
      rw [this]; rfl
    ·rw [if_neg h2]
     rw [bne h2]; rfl, fun _ _ => trivial⟩)
  (fun i s hi _ => by
   have : i = l.length := by omega
   subst this
   unfold xbW
   simp only [gi_4, gi_3, gi_2, gi_1, gi_z, gb_1, gb_z, dnlt]) (s := (false, 0, 0)) trivial
 rw [List.drop_zero] at h
 exact h
theorem xey (o : Int) (l : List (List Int)) (hl : l.length ≤ 9223372036854775807) : xaA o l ∧ xab o l = valF o l := by
 obtain ⟨h1, h2⟩ := xu8 o l hl
 refine ⟨fun _ => h1, ?_⟩
 unfold xab valF
 rw [h2]
 have := xlO o l.length l (false, 0, 0)
 rw [this]
 by_cases h0 : 0 ≤ o
 ·by_cases h8 : o ≤ 8
  ·by_cases h200 : l.length ≤ 200
   ·simp [h0, h8, h200, show ¬ o < 0 by omega, show ¬ o > 8 by omega, show ¬ ((l.length : Int) > 200) by omega]
   ·simp [h0, h8, h200, show ((l.length : Int) > 200) by omega]
  ·simp [h8, show o > 8 by omega]
 ·simp [h0, show o < 0 by omega]
def onF (t : Int) : Bool → List (List Int) → Bool
 | b, [] => b
 | b, x :: r => if col x 0 > t then b else onF t (if clsF (col x 1) = 3 then col x 1 == 5 else b) r
def xl3 (t : Int) (s : Bool) (x : List Int) : Bool ⊕ (Nat × List U) := if col x 0 > t then .inr (2, [.b s]) else .inl (if clsF (col x 1) = 3 then col x 1 == 5 else s)
theorem xqs (t n : Int) : ∀ (l : List (List Int)) (s : Bool),
  (bif (endL (fun s : Bool => (3, [.i n, .b s])) (runL (xl3 t) s l)).1.beq 3 then gb (endL (fun s : Bool => (3, [.i n, .b s])) (runL (xl3 t) s l)).2 0 else gb (endL (fun s : Bool => (3, [.i n, .b s])) (runL (xl3 t) s l)).2 1) = onF t s l
 | [], s => rfl
 | x :: r, s => by
  unfold runL onF
  by_cases h : col x 0 > t
  ·have e : xl3 t s x = .inr (2, [.b s]) := by unfold xl3; rw [if_pos h]
   rw [e, if_pos h]; rfl
  ·have e : xl3 t s x = .inl (if clsF (col x 1) = 3 then col x 1 == 5 else s) := by unfold xl3; rw [if_neg h]
   rw [e, if_neg h]
   exact xqs t n r _
theorem xwr (o t : Int) (l : List (List Int)) (hl : l.length ≤ 9223372036854775807) : xcy o t l ∧ xaG o t l = onF t true l := by
 obtain ⟨h1, h2⟩ := xdL (step := xdv o t l) l (fun i (s : Bool) => [.i i, .b s]) (xl3 t) (fun _ _ => True) (fun s => (3, [.i l.length, .b s])) 0
  (fun i s hi _ _ => ⟨by
   unfold xdv xl3
   simp only [gi_z, gb_1, gb_z, dlt hi, xaa (xaK hi), xeA (show i < 9223372036854775807 by omega), xbp hi, xmz]
   generalize l[i] = x
   by_cases h1 : col x 0 > t
   ·rw [if_pos h1, decide_eq_true h1]; rfl
   ·rw [if_neg h1, decide_eq_false h1]
    by_cases h2 : clsF (col x 1) = 3
    ·rw [if_pos h2, h2]; rfl
    ·rw [if_neg h2, bne h2]; rfl, fun _ _ => trivial⟩)
  (fun i s hi _ => by
   have : i = l.length := by omega
   subst this
   unfold xdv
   simp only [gi_z, gb_1, gb_z, dnlt]) (s := true) trivial
 rw [List.drop_zero] at h2
 refine ⟨h1, ?_⟩
 unfold xaG xgK
 have hi : xfu o t l = [.i ((0 : Nat) : Int), .b true] := rfl
 rw [hi, h2]
 exact xqs t l.length l true
def xtI (j : Nat) (d : Int) (l : List (List Int)) : Int := match l.getLast? with | some x => col x j | none => d
theorem xtH (o : Int) (l : List (List Int)) (hl : l.length ≤ 9223372036854775807) : xbR o l ∧ xa2 o l = xtI 0 (-1) l ∧ xa1 o l = xtI 3 0 l := by
 unfold xbR xa2 xj9 xa1 xj8 xtI
 by_cases h : l.length = 0
 ·have : l = [] := List.eq_nil_of_length_eq_zero h
  subst this
  refine ⟨fun h => ?_, rfl, rfl⟩
  simp at h
 ·have hw : IntKind.i64.wrap ((l.length : Int) - 1) = ((l.length - 1 : Nat) : Int) := by rw [xc2 (by omega)]; omega
  have hr : inR (IntKind.i64.wrap ((l.length : Int) - 1)) l := by rw [hw]; exact xaK (by omega)
  have hd : decide ((l.length : Int) > 0) = true := decide_eq_true (by omega)
  have hg : l.getLast? = some l[l.length - 1] := by rw [List.getLast?_eq_getElem?, List.getElem?_eq_getElem (by omega)]
  refine ⟨fun _ => ⟨hr, hr, hr, hr, hr, hr⟩, ?_, ?_⟩
  ·rw [hd, cond_true, hw, xbp (by omega), hg]
  ·rw [hd, cond_true, hw, xbp (by omega), hg]
def xve (n t : Int) (l : List (List Int)) : Bool := l.any fun x => col x 2 == n && (decide (t < 0) || col x 0 == t)
theorem xq4 (o n t : Int) (l : List (List Int)) (hl : l.length ≤ 9223372036854775807) : xcc o n t l ∧ xaL o n t l = xve n t l :=
 xiU (step := xcX o n t l) (p := fun x => col x 2 == n && (decide (t < 0) || col x 0 == t)) 1
  (fun i hi => by
   unfold xcX
   simp only [gi_z, gi_1, dlt hi, xaa (xaK hi), xeA (show i < 9223372036854775807 by omega), xbp hi])
  (by unfold xcX; simp only [gi_z, gi_1, dnlt]) rfl
def badC (x : List Int) : Bool := !tmF (col x 2) || !itF (col x 1) || decide (col x 0 < 1) || decide (col x 0 > 8)
def chF (l : List (List Int)) : Bool := decide (l.length ≤ 200) && !l.any badC
theorem xiI (l : List (List Int)) (hl : l.length ≤ 9223372036854775807) : xbA l ∧ xaz l = chF l := by
 obtain ⟨h1, h2⟩ := xiU (step := xb4 l) (l := l) (p := badC) 1
  (fun i hi => by
   unfold xb4
   simp only [gi_z, gi_1, dlt hi, xaa (xaK hi), xeA (show i < 9223372036854775807 by omega), xbp hi, xjJ, xwN]
   rfl)
  (by unfold xb4; simp only [gi_z, gi_1, dnlt]) (init := xdX l) rfl
 refine ⟨fun _ => h1, ?_⟩
 unfold xaz chF xfv
 rw [h2]
 congr 1
 exact decide_eq_decide.2 (by omega)
def hasN (n : Int) (l : List (List Int)) : Bool := l.any fun x => n == col x 0
theorem xt0 (n : Int) (l : List (List Int)) (hl : l.length ≤ 9223372036854775807) : xbb n l ∧ xbK n l = hasN n l :=
 xiU (step := xbc n l) (p := fun x => n == col x 0) 1
  (fun i hi => by
   unfold xbc
   simp only [gi_z, gi_1, dlt hi, xaa (xaK hi), xeA (show i < 9223372036854775807 by omega), xbp hi])
  (by unfold xbc; simp only [gi_z, gi_1, dnlt]) rfl
end Go.Proofs.YtikhnofbbcmpeaaGreat
set_option linter.unusedVariables false
set_option maxRecDepth 100000
namespace Go.Proofs.YtikhnofbbcmpeaaGreat
open Go Go.Sy
def xri (l : List Int) : List Int := dd none (xfM leI l)
theorem xsj (l : List Int) : (xri l).length ≤ l.length := by
 unfold xri
 refine Nat.le_trans (xmv _ _) ?_
 rw [xeG]; exact Nat.le_refl _
theorem xwq (s : List (List Int)) : List.take (xeN (xbr s)).toNat (xdx (xbr s)) = xc5 (xri (nums s)) ∧ 0 ≤ xeN (xbr s) ∧ xeN (xbr s) ≤ ((xdx (xbr s)).length : Int) := by
 have e1 : nums (xbr s) = xfM leI (nums s) := by unfold xbr; rw [xg3]
 have hle := xmv (xfM leI (nums s)) none
 unfold xeN xdx
 rw [e1]
 refine ⟨?_, by omega, ?_⟩
 ·unfold xc5 xri
  rw [Int.toNat_natCast, List.map_append, List.take_left' (by simp)]
 ·simp [xc5]
  omega
theorem xhA {α β : Type} (p : α → Bool) (g : α → β) : ∀ (l : List α) (s : List β), l.foldl (fun s x => if p x = true then s ++ [g x] else s) s = s ++ (l.filter p).map g
 | [], s => by simp
 | x :: r, s => by
  rw [List.foldl_cons, xhA p g r]
  by_cases h : p x = true
  ·rw [if_pos h, List.filter_cons_of_pos h]; simp
  ·rw [if_neg h, List.filter_cons_of_neg h]
theorem xsu {α : Type} (c : Prop) [Decidable c] (s : List α) (a : α) : (if c then s ++ [a] else s).length ≤ s.length + 1 := by
 split
 ·simp
 ·omega
def xlg (t : Int) : List (List Int) → List Int
 | [] => []
 | x :: r => if col x 0 > t then [] else if col x 1 = 3 then col x 2 :: xlg t r else xlg t r
theorem xjK (t : Int) : ∀ l, (xlg t l).length ≤ l.length
 | [] => Nat.le_refl _
 | x :: r => by
  have := xjK t r
  unfold xlg
  split
  ·exact Nat.zero_le _
  ·split <;> simp <;> omega
def xnB (t : Int) (s : List (List Int)) (x : List Int) : List (List Int) ⊕ (Nat × List U) := if col x 0 > t then .inr (2, [.r s]) else .inl (if col x 1 = 3 then s ++ [[col x 2]] else s)
theorem xqj (t n : Int) : ∀ (l : List (List Int)) (s : List (List Int)),
  (∃ b, endL (fun s : List (List Int) => (3, [.i n, .r s])) (runL (xnB t) s l) = if b = true then (3, [.r (s ++ xc5 (xlg t l))]) else (4, [.i n, .r (s ++ xc5 (xlg t l))]))
 | [], s => ⟨false, by simp [runL, endL, xlg, xc5]⟩
 | x :: r, s => by
  unfold runL xlg
  by_cases h : col x 0 > t
  ·have e : xnB t s x = .inr (2, [.r s]) := by unfold xnB; rw [if_pos h]
   exact ⟨true, by rw [e, if_pos h]; simp [endL, xc5]⟩
  ·have e : xnB t s x = .inl (if col x 1 = 3 then s ++ [[col x 2]] else s) := by unfold xnB; rw [if_neg h]
   rw [e, if_neg h]
   obtain ⟨b, hb⟩ := xqj t n r (if col x 1 = 3 then s ++ [[col x 2]] else s)
   refine ⟨b, ?_⟩
   simp only [hb]
   by_cases h3 : col x 1 = 3
   ·simp only [if_pos h3, xc5, List.map_cons, List.append_assoc, List.cons_append, List.nil_append]
   ·simp only [if_neg h3]
theorem xuo (o t : Int) (l : List (List Int)) (hl : l.length ≤ 1000000) : xbV o t l ∧ xcH o t l = xc5 (xri (xlg t l)) := by
 obtain ⟨h1, h2⟩ := xdL (step := xcG o t l) l (fun i (s : List (List Int)) => [.i i, .r s]) (xnB t) (fun i s => s.length ≤ i) (fun s => (3, [.i l.length, .r s])) 0
  (fun i s hi _ hI => by
   have hfit : xbH 8 (s.length + [[col l[i] 2]].length) := by unfold xbH maxLen; simp only [List.length_cons, List.length_nil]; omega
   refine ⟨?_, fun s' hs' => ?_⟩
   ·unfold xcG xnB
    simp only [gi_z, gr_1, gr_z, dlt hi, xaa (xaK hi), xeA (show i < 9223372036854775807 by omega), xbp hi]
    rw [xaa hfit]
    generalize l[i] = x
    by_cases h1 : col x 0 > t
    ·rw [if_pos h1, decide_eq_true h1]; rfl
    ·rw [if_neg h1, decide_eq_false h1]
     by_cases h2 : x.getD 1 0 = 3
     ·rw [if_pos h2, h2]; rfl
     ·rw [if_neg h2, bne h2]; rfl
   ·unfold xnB at hs'
    split at hs'
    ·cases hs'
    ·cases hs'
     exact Nat.le_trans (xsu _ _ _) (by omega))
  (fun i s hi _ => by
   have : i = l.length := by omega
   subst this
   unfold xcG
   simp only [gi_z, gr_1, gr_z, dnlt]) (s := []) (Nat.zero_le _)
 rw [List.drop_zero] at h2
 obtain ⟨b, hb⟩ := xqj t l.length l []
 have hg : xaF o t l = if b = true then (3, [.r (xc5 (xlg t l))]) else (4, [.i l.length, .r (xc5 (xlg t l))]) := by
  unfold xaF
  have hi : xeH o t l = [.i ((0 : Nat) : Int), .r []] := rfl
  rw [hi, h2, hb, List.nil_append]
 have hlen : (xc5 (xlg t l)).length < 4611686018427387904 := by
  have := xjK t l
  simp [xc5]; omega
 obtain ⟨o1, o2, o3⟩ := xwq (xc5 (xlg t l))
 rw [xg3] at o1
 unfold xbV xcH xjl
 rw [hg]
 cases b with
 | true =>
  rw [if_pos rfl]
  exact ⟨⟨h1, fun _ => ⟨hlen, o2, o3⟩, fun h => by cases h⟩, o1⟩
 | false =>
  rw [if_neg (by decide)]
  exact ⟨⟨h1, (fun h => by cases h), fun _ => ⟨hlen, o2, o3⟩⟩, o1⟩
def xr3 (t : Int) (l : List (List Int)) : List Int := xri (xlg t l)
theorem xyf (o t : Int) (l : List (List Int)) (hl : l.length ≤ 9223372036854775807) : xcs o t l ∧ xcI o t l = (if (valF o l && tmF t) = true then xc5 (xr3 t l) else []) ∧ xdf o t l = if (valF o l && tmF t) = true then 0 else 1 := by
 obtain ⟨v1, v2⟩ := xey o l hl
 unfold xcs xcI xdf
 rw [v2, xjJ]
 cases hv : valF o l with
 | false => exact ⟨⟨v1, fun h => by cases h⟩, rfl, rfl⟩
 | true =>
  have h200 : l.length ≤ 200 := by
   unfold valF at hv
   simp only [Bool.and_eq_true, decide_eq_true_eq] at hv
   exact hv.1.2
  obtain ⟨s1, s2⟩ := xuo o t l (by omega)
  cases ht : tmF t with
  | false => exact ⟨⟨v1, fun h => by cases h⟩, rfl, rfl⟩
  | true => exact ⟨⟨v1, fun _ => s1⟩, s2, rfl⟩
theorem xtg {o : Int} {l : List (List Int)} (h : valF o l = true) : l.length ≤ 200 ∧ 0 ≤ o ∧ o ≤ 8 := by
 unfold valF at h
 simp only [Bool.and_eq_true, decide_eq_true_eq] at h
 exact ⟨h.1.2, h.1.1.1, h.1.1.2⟩
def coP (so t : Int) (office ship : List (List Int)) (c : List Int) : Bool := col c 0 == so && decide (col c 2 ≤ t) && xve (col c 1) (col c 2) office && onF (col c 2) true ship
def xsW (so t : Int) (office ship list : List (List Int)) : List Int := (list.filter (coP so t office ship)).map fun c => col c 1
def coOk (oo so t : Int) (office ship list : List (List Int)) : Bool := valF oo office && valF so ship && chF list && tmF t && oo == 0 && so != 0
theorem xu6 (oo so t : Int) (office ship list : List (List Int)) (h1 : office.length ≤ 9223372036854775807) (h2 : ship.length ≤ 9223372036854775807) (h3 : list.length ≤ 9223372036854775807) :
  xbD oo so t office ship list ∧ xcL oo so t office ship list = (if coOk oo so t office ship list = true then xc5 (xri (xsW so t office ship list)) else []) ∧ xcK oo so t office ship list = if coOk oo so t office ship list = true then 0 else 1 := by
 obtain ⟨a1, a2⟩ := xey oo office h1
 obtain ⟨b1, b2⟩ := xey so ship h2
 obtain ⟨c1, c2⟩ := xiI list h3
 unfold xbD xcL xju xcK
 rw [a2, b2, c2, xjJ]
 have e : (!valF oo office || !valF so ship || !chF list || !tmF t || oo != 0 || so == 0) = !coOk oo so t office ship list := by
  unfold coOk
  show (!valF oo office || !valF so ship || !chF list || !tmF t || !(oo == 0) || so == 0) = !(valF oo office && valF so ship && chF list && tmF t && oo == 0 && !(so == 0))
  cases valF oo office <;> cases valF so ship <;> cases chF list <;> cases tmF t <;> cases (oo == 0) <;> cases (so == 0) <;> rfl
 rw [e]
 cases hok : coOk oo so t office ship list with
 | false => exact ⟨⟨a1, fun _ => b1, fun _ => c1, fun h => by cases h⟩, rfl, rfl⟩
 | true =>
  have hlist : list.length ≤ 200 := by
   unfold coOk chF at hok
   simp only [Bool.and_eq_true, decide_eq_true_eq] at hok
   exact hok.1.1.1.2.1
  obtain ⟨g1, g2⟩ := xdL (step := xcJ oo so t office ship list) list (fun i (s : List (List Int)) => [.i i, .r s]) (fun s x => .inl (if coP so t office ship x = true then s ++ [[col x 1]] else s)) (fun i s => s.length ≤ i) (fun s => (2, [.i list.length, .r s])) 0
   (fun i s hi _ hI => by
    have hfit : xbH 8 (s.length + [[col list[i] 1]].length) := by unfold xbH maxLen; simp only [List.length_cons, List.length_nil]; omega
    refine ⟨?_, fun s' hs' => ?_⟩
    ·unfold xcJ
     simp only [gi_z, gr_1, gr_z, dlt hi, xaa (xaK hi), xeA (show i < 9223372036854775807 by omega), xbp hi, (xq4 _ _ _ office h1).2, (xwr _ _ ship h2).2]
     rw [xaa (fun _ => (xq4 _ _ _ office h1).1), xaa (fun _ => (xwr _ _ ship h2).1), xaa hfit]
     generalize list[i] = x
     show (bif coP so t office ship x then _ else _) = _
     cases coP so t office ship x
     ·rw [if_neg (by decide)]; rfl
     ·rw [if_pos rfl]; rfl
    ·cases hs'
     exact Nat.le_trans (xsu _ _ _) (by omega))
   (fun i s hi _ => by
    have : i = list.length := by omega
    subst this
    unfold xcJ
    simp only [gi_z, gr_1, gr_z, dnlt]) (s := []) (Nat.zero_le _)
  rw [List.drop_zero, xho, xhA, List.nil_append] at g2
  have hg : xce oo so t office ship list = (3, [.i list.length, .r (xc5 (xsW so t office ship list))]) := by
   unfold xce
   have hi : xeK oo so t office ship list = [.i ((0 : Nat) : Int), .r []] := rfl
   rw [hi, g2]
   unfold xsW xc5
   rw [List.map_map]
   rfl
  have hlen : (xc5 (xsW so t office ship list)).length < 4611686018427387904 := by
   have := List.length_filter_le (coP so t office ship) list
   simp [xc5, xsW]; omega
  obtain ⟨o1, o2, o3⟩ := xwq (xc5 (xsW so t office ship list))
  rw [xg3] at o1
  rw [hg]
  exact ⟨⟨a1, fun _ => b1, fun _ => c1, fun _ => ⟨g1, hlen, o2, o3⟩⟩, o1, rfl⟩
end Go.Proofs.YtikhnofbbcmpeaaGreat
set_option linter.unusedVariables false
set_option maxRecDepth 100000
namespace Go.Proofs.YtikhnofbbcmpeaaGreat
open Go Go.Sy
def xA8 (m k : Nat) : Bool := (bAnd IntKind.i64 ((m : Int).fdiv ((2 : Int) ^ min k IntKind.i64.bits)) 1 == 1) == m.testBit k
theorem xzx : (List.range 512).all (fun m => (List.range 9).all fun k => xA8 m k) = true := by decide +kernel
theorem xyK {m k : Nat} (hm : m < 512) (hk : k < 9) : (bAnd IntKind.i64 ((m : Int).fdiv ((2 : Int) ^ min k IntKind.i64.bits)) 1 == 1) = m.testBit k := by
 have := List.all_eq_true.1 (List.all_eq_true.1 xzx m (List.mem_range.2 hm)) k (List.mem_range.2 hk)
 exact eq_of_beq this
def orOk (m k : Nat) : Bool := bOr IntKind.i64 (m : Int) (bShl IntKind.i64 1 (k : Int)) == ((m ||| 2 ^ k : Nat) : Int)
theorem xzQ : (List.range 512).all (fun m => (List.range 9).all fun k => orOk m k) = true := by decide +kernel
theorem xzO {m k : Nat} (hm : m < 512) (hk : k < 9) : bOr IntKind.i64 (m : Int) (bShl IntKind.i64 1 (k : Int)) = ((m ||| 2 ^ k : Nat) : Int) := by
 have := List.all_eq_true.1 (List.all_eq_true.1 xzQ m (List.mem_range.2 hm)) k (List.mem_range.2 hk)
 exact eq_of_beq this
def subB (m a : Nat) : Bool := (List.range 9).all fun k => !m.testBit k || a.testBit k
theorem xl5 {m : Nat} (hm : m < 512) (i : Nat) : (BitVec.ofInt 64 (m : Int)).getLsbD i = (decide (i < 64) && m.testBit i) := by
 have : BitVec.ofInt 64 (m : Int) = BitVec.ofNat 64 m := by
  apply BitVec.eq_of_toNat_eq
  simp
 rw [this, BitVec.getLsbD_ofNat]
theorem xva {m : Nat} (hm : m < 512) {i : Nat} (hi : 9 ≤ i) : m.testBit i = false := by
 refine Nat.testBit_lt_two_pow (Nat.lt_of_lt_of_le hm ?_)
 exact Nat.pow_le_pow_right (n := 2) (by omega) hi
theorem xvX {n : Nat} (h : n < 18446744073709551616) : IntKind.i64.wrap (n : Int) = 0 ↔ n = 0 := by
 constructor
 ·intro hw
  simp only [IntKind.wrap, IntKind.bits, IntKind.signed] at hw
  simp at hw
  split at hw <;> omega
 ·rintro rfl; decide
theorem xzR {m a : Nat} (hm : m < 512) (ha : a < 512) : (bNot IntKind.i64 (m : Int) (a : Int) != 0) = !subB m a := by
 have key : (BitVec.ofInt 64 (m : Int) &&& ~~~(BitVec.ofInt 64 (a : Int))) = 0#64 ↔ subB m a = true := by
  constructor
  ·intro h
   refine List.all_eq_true.2 fun k hk => ?_
   have hk := List.mem_range.1 hk
   have h1 := congrArg (fun v => v.getLsbD k) h
   simp only [BitVec.getLsbD_and, BitVec.getLsbD_not, xl5 hm, xl5 ha, BitVec.getLsbD_zero] at h1
   have h64 : k < 64 := by omega
   simp only [h64, decide_true, Bool.true_and] at h1
   cases h2 : m.testBit k <;> cases h3 : a.testBit k <;> simp_all
  ·intro h
   apply BitVec.eq_of_getLsbD_eq
   intro i hi
   simp only [BitVec.getLsbD_and, BitVec.getLsbD_not, xl5 hm, xl5 ha, BitVec.getLsbD_zero]
   by_cases h9 : i < 9
   ·have := List.all_eq_true.1 h i (List.mem_range.2 h9)
    cases h2 : m.testBit i <;> cases h3 : a.testBit i <;> simp_all
   ·rw [xva hm (by omega)]; simp
 have hlt : (BitVec.ofInt 64 (m : Int) &&& ~~~(BitVec.ofInt 64 (a : Int))).toNat < 18446744073709551616 := BitVec.isLt _
 have e : bNot IntKind.i64 (m : Int) (a : Int) = IntKind.i64.wrap ((BitVec.ofInt 64 (m : Int) &&& ~~~(BitVec.ofInt 64 (a : Int))).toNat : Int) := rfl
 cases hs : subB m a with
 | true =>
  have := key.2 hs
  rw [e, this]; decide
 | false =>
  have hne : ¬ (BitVec.ofInt 64 (m : Int) &&& ~~~(BitVec.ofInt 64 (a : Int))) = 0#64 := fun h => by rw [key.1 h] at hs; cases hs
  have h0 : ¬ (BitVec.ofInt 64 (m : Int) &&& ~~~(BitVec.ofInt 64 (a : Int))).toNat = 0 := fun h => hne (BitVec.eq_of_toNat_eq h)
  have : ¬ bNot IntKind.i64 (m : Int) (a : Int) = 0 := fun h => h0 ((xvX hlt).1 (e ▸ h))
  simp [this]
def ddF (p : List Int) : List (List Int) → List (List Int)
 | [] => []
 | x :: r => if x = p then ddF p r else x :: ddF x r
def ddR : List (List Int) → List (List Int)
 | [] => []
 | x :: r => x :: ddF x r
theorem xrM (x : List Int) : ∀ (l : List (List Int)) (p : List Int), ddF p (l ++ [x]) = if (l.getLast?.getD p) = x then ddF p l else ddF p l ++ [x]
 | [], p => by
  show (if x = p then ddF p [] else x :: ddF x []) = if p = x then ddF p [] else ddF p [] ++ [x]
  by_cases h : x = p
  ·rw [if_pos h, if_pos h.symm]
  ·rw [if_neg h, if_neg (fun e => h e.symm)]; rfl
 | y :: r, p => by
  have e : (y :: r).getLast?.getD p = r.getLast?.getD y := by
   cases r with
   | nil => rfl
   | cons a b => rw [List.getLast?_cons_cons]; cases h : (a :: b).getLast? with
    | none => simp at h
    | some z => rfl
  rw [List.cons_append, e]
  unfold ddF
  by_cases h : y = p
  ·subst h
   rw [if_pos rfl, if_pos rfl]
   exact xrM x r y
  ·rw [if_neg h, if_neg h, xrM x r y]
   split <;> rfl
theorem xoA {l : List (List Int)} {j : Nat} (h0 : 0 < j) (hj : j < l.length) : ddR (l.take (j + 1)) = if l[j] = l[j - 1] then ddR (l.take j) else ddR (l.take j) ++ [l[j]] := by
 cases l with
 | nil => simp at hj
 | cons x r =>
  obtain ⟨i, rfl⟩ : ∃ i, j = i + 1 := ⟨j - 1, by omega⟩
  have hi : i < r.length := by simpa using hj
  simp only [List.take_succ_cons, ddR]
  rw [List.take_succ_eq_append_getElem hi, xrM]
  have e1 : (x :: r)[i + 1] = r[i] := rfl
  have e2 : ((r.take i).getLast?.getD x) = (x :: r)[i + 1 - 1] := by
   cases i with
   | zero => rfl
   | succ i =>
    have hi' : i < r.length := by omega
    rw [List.take_succ_eq_append_getElem hi', List.getLast?_concat]
    rfl
  rw [e1, e2]
  by_cases h : r[i] = (x :: r)[i + 1 - 1]
  ·rw [if_pos h, if_pos h.symm]
  ·rw [if_neg h, if_neg (fun e => h e.symm)]; rfl
theorem xxm {l : List (List Int)} (h : 0 < l.length) : ddR (l.take 1) = [l[0]] := by
 cases l with
 | nil => simp at h
 | cons x r => rfl
theorem xeM (l : List (List Int)) : ∀ j, 0 < j → j ≤ l.length → (ddR (l.take j)).length ≤ j ∧ 0 < (ddR (l.take j)).length
 | 0, h, _ => by omega
 | 1, _, h => by rw [xxm (by omega)]; simp
 | j + 2, _, h => by
  obtain ⟨ih1, ih2⟩ := xeM l (j + 1) (by omega) (by omega)
  rw [xoA (by omega) (by omega)]
  split
  ·omega
  ·simp; omega
theorem xrL {l : List (List Int)} : ∀ j, 0 < j → j ≤ l.length → (∀ i (hi : i < l.length), 0 < i → i < j → l[i] ≠ l[i - 1]) → ddR (l.take j) = l.take j
 | 0, h, _, _ => by omega
 | 1, _, h, _ => by rw [xxm (by omega), List.take_succ_eq_append_getElem (by omega)]; simp
 | j + 2, _, h, hne => by
  rw [xoA (by omega) (by omega), if_neg (hne (j + 1) (by omega) (by omega) (by omega)), xrL (j + 1) (by omega) (by omega) (fun i hi h0 h1 => hne i hi h0 (by omega)), ← List.take_succ_eq_append_getElem]
end Go.Proofs.YtikhnofbbcmpeaaGreat
set_option linter.unusedVariables false
set_option maxRecDepth 100000
namespace Go.Proofs.YtikhnofbbcmpeaaGreat
open Go Go.Sy
def rOn (k : Nat) : List Int := [2, (k : Int), 0]
def lft (g : List Int) : List Int := if col g 2 = 0 then [3, col g 0, col g 1] else [1, 0, col g 1]
def cov (m : Nat) (g : List Int) : Bool := col g 3 != 0 && m.testBit (col g 0).toNat
def xlH (m : Nat) (list : List (List Int)) : List (List Int) := ((List.range 9).filter m.testBit).map rOn ++ (list.filter fun g => !cov m g).map lft
def byF (m : Nat) (list : List (List Int)) : List (List Int) := ddR (xfM (leL [0, 1, 2]) (xlH m list))
def xhm (list : List (List Int)) : Prop := ∀ g ∈ list, 0 ≤ col g 0 ∧ col g 0 ≤ 8
theorem xza (g : List Int) : (lft g).length = 3 := by unfold lft; split <;> rfl
theorem xqP (m : Nat) (list : List (List Int)) : ∀ x ∈ xlH m list, x.length = 3 := by
 intro x hx
 rcases List.mem_append.1 hx with hx | hx
 ·obtain ⟨k, _, rfl⟩ := List.mem_map.1 hx; rfl
 ·obtain ⟨g, _, rfl⟩ := List.mem_map.1 hx; exact xza g
theorem xut {a b : List Int} (ha : a.length = 3) (hb : b.length = 3) (h0 : col a 0 = col b 0) (h1 : col a 1 = col b 1) (h2 : col a 2 = col b 2) : a = b := by
 match a, b, ha, hb with
 | [a0, a1, a2], [b0, b1, b2], _, _ =>
  have h0 : a0 = b0 := h0
  have h1 : a1 = b1 := h1
  have h2 : a2 = b2 := h2
  rw [h0, h1, h2]
theorem xuu {a b : List Int} (ha : a.length = 3) (hb : b.length = 3) : (col a 0 == col b 0 && (col a 1 == col b 1 && (col a 2 == col b 2 && true))) = decide (a = b) := by
 by_cases h : a = b
 ·subst h; simp
 ·rw [decide_eq_false h]
  cases hq : (col a 0 == col b 0 && (col a 1 == col b 1 && (col a 2 == col b 2 && true))) with
  | false => rfl
  | true =>
   simp only [Bool.and_eq_true, beq_iff_eq] at hq
   exact absurd (xut ha hb hq.1 hq.2.1 hq.2.2.1) h
theorem xyJ {m : Nat} (hm : m < 512) (list : List (List Int)) : xaM (xb8 m list) (xfy m list) ∧ gr (xiZ m list).snd 1 = ((List.range 9).filter m.testBit).map rOn := by
 have hu : ∀ n, upto (fun i (s : List (List Int)) => if m.testBit i = true then s ++ [rOn i] else s) n [] = ((List.range n).filter m.testBit).map rOn := by
  intro n
  induction n with
  | zero => rfl
  | succ n ih =>
   show (if m.testBit n = true then upto _ n [] ++ [rOn n] else upto _ n []) = _
   rw [ih, List.range_succ, List.filter_append, List.map_append]
   cases hb : m.testBit n
   ·simp [hb]
   ·simp [hb]
 obtain ⟨h1, h2, _⟩ := xl9 (step := xb8 m list) 9 (fun i (s : List (List Int)) => [.i i, .r s]) (fun i s => if m.testBit i = true then s ++ [rOn i] else s) (fun i s => s.length ≤ i) 2 (fun s => [.i (9 : Nat), .r s])
  (fun i s hi hI => Nat.le_trans (xsu _ _ _) (by omega))
  (fun i s hi hI => by
   have hfit : xbH 24 (s.length + [[(2 : Int), (i : Int), 0]].length) := by unfold xbH maxLen; simp only [List.length_cons, List.length_nil]; omega
   unfold xb8
   simp only [gi_z, gr_1, gr_z, decide_eq_true (show (i : Int) < 9 by omega), cond_true, xaa (show (0 : Int) ≤ (i : Int) by omega), Int.toNat_natCast, xyK hm hi, xeA (show i < 9223372036854775807 by omega)]
   rw [xaa hfit]
   cases m.testBit i
   ·rw [if_neg (by decide)]; rfl
   ·rw [if_pos rfl]; rfl)
  (fun s hI => by
   unfold xb8
   simp only [gi_z, gr_1, gr_z]
   rfl) (s := []) (Nat.le_refl _)
 refine ⟨h1, ?_⟩
 have : xiZ m list = xaC (xb8 m list) [.i ((0 : Nat) : Int), .r []] := rfl
 rw [this, h2]
 show gr [.i (9 : Nat), .r (upto _ 9 [])] 1 = _
 rw [gr_1, gr_z, hu]
theorem xAk {m : Nat} (hm : m < 512) {list : List (List Int)} (hs : xhm list) (hl : list.length ≤ 1000000) : xaM (xcO m list) (xdw m list) ∧ gr (xas m list).snd 1 = xlH m list := by
 have h9 : (((List.range 9).filter m.testBit).map rOn).length ≤ 9 := by
  rw [List.length_map]
  exact Nat.le_trans (List.length_filter_le _ _) (by simp)
 obtain ⟨h1, h2⟩ := xdL (step := xcO m list) list (fun i (s : List (List Int)) => [.i i, .r s]) (fun s x => .inl (if (!cov m x) = true then s ++ [lft x] else s)) (fun i s => s.length ≤ 9 + i) (fun s => (3, [.i list.length, .r s])) 0
  (fun i s hi _ hI => by
   have hfit : ∀ x : List Int, xbH 24 (s.length + [x].length) := fun x => by unfold xbH maxLen; simp only [List.length_cons, List.length_nil]; omega
   refine ⟨?_, fun s' hs' => ?_⟩
   ·obtain ⟨q1, q2⟩ := hs _ (List.getElem_mem hi)
    unfold xcO xmj
    simp only [gi_z, gr_1, gr_z, dlt hi, xaa (xaK hi), xeA (show i < 9223372036854775807 by omega), xbp hi]
    generalize hx : list[i] = x at *
    rw [xaa (fun _ => q1), xaa (hfit _), xaa (hfit _)]
    have hb := xyK hm (show (col x 0).toNat < 9 by omega)
    have hb' : (bAnd IntKind.i64 ((m : Int).fdiv ((2 : Int) ^ min (x.getD 0 0).toNat IntKind.i64.bits)) 1 == 1) = m.testBit (col x 0).toNat := hb
    rw [hb']
    show (bif cov m x then _ else _) = _
    cases cov m x with
    | true => rw [if_neg (by decide)]; rfl
    | false =>
     rw [if_pos (show (!false) = true from rfl)]
     unfold lft
     by_cases h2 : x.getD 2 0 = 0
     ·rw [if_pos h2, h2]; rfl
     ·rw [if_neg h2]
      have : (x.getD 2 0 != 0) = true := by simpa using h2
      rw [this]; rfl
   ·cases hs'
    exact Nat.le_trans (xsu _ _ _) (by omega))
  (fun i s hi _ => by
   have : i = list.length := by omega
   subst this
   unfold xcO
   simp only [gi_z, gr_1, gr_z, dnlt]) (s := ((List.range 9).filter m.testBit).map rOn) (by omega)
 have e : xdw m list = [.i ((0 : Nat) : Int), .r (((List.range 9).filter m.testBit).map rOn)] := by
  unfold xdw
  rw [(xyJ hm list).2]; rfl
 unfold xas
 rw [e]
 refine ⟨h1, ?_⟩
 rw [h2, List.drop_zero, xho, xhA]
 show gr [.i list.length, .r _] 1 = _
 rw [gr_1, gr_z]
 rfl
theorem xzJ {a : List Int} (x y z : Int) : xli 3 a 0 [x, y, z] = [x, y, z] := rfl
theorem xAi {set : Int} {list T : List (List Int)} (hT : xaS 3 [0, 1, 2] (gr (xas set list).snd 1) = T) (h3 : ∀ x ∈ T, x.length = 3) {k0 : Nat} (hk : 0 < k0) (hk' : k0 < T.length) (hlen : T.length ≤ 10000000) (hd : ddR (T.take (k0 + 1)) = T.take k0) :
  xaM (xb6 set list [.i k0]) (xcN set list [.i k0]) ∧ ∃ (k : Nat) (S : List (List Int)), xaw set list [.i k0] = (3, [.i k, .i (T.length - k0 : Nat), .r S]) ∧ k ≤ T.length ∧ S.length = T.length ∧ S.take k = ddR T := by
 have h3at : ∀ j (hj : j < T.length), T[j].length = 3 := fun j hj => h3 _ (List.getElem_mem hj)
 let f : Nat → Nat × List (List Int) → Nat × List (List Int) := fun i s => if T.getD (k0 + (i + 1)) [] = T.getD (k0 + i) [] then s else (s.1 + 1, s.2.set s.1 (T.getD (k0 + (i + 1)) []))
 let I : Nat → Nat × List (List Int) → Prop := fun i s => s.1 = (ddR (T.take (k0 + i + 1))).length ∧ s.2.length = T.length ∧ s.2.take s.1 = ddR (T.take (k0 + i + 1)) ∧ (∀ p, k0 + i ≤ p → s.2[p]? = T[p]?) ∧ s.1 ≤ k0 + i
 have hI : ∀ i s, i < T.length - k0 - 1 → I i s → I (i + 1) (f i s) := by
  rintro i ⟨k, S⟩ hi ⟨q1, q2, q3, q4, q5⟩
  have q5 : k ≤ k0 + i := q5
  have q4 : ∀ p, k0 + i ≤ p → S[p]? = T[p]? := q4
  have hj : k0 + i + 1 < T.length := by omega
  have e1 : T.getD (k0 + (i + 1)) [] = T[k0 + i + 1] := xbq (i := k0 + i + 1) hj
  have e2 : T.getD (k0 + i) [] = T[k0 + i] := xbq (by omega)
  have hdt := xoA (l := T) (j := k0 + i + 1) (by omega) hj
  have hdl := xeM T (k0 + i + 1) (by omega) (by omega)
  show I (i + 1) (if T.getD (k0 + (i + 1)) [] = T.getD (k0 + i) [] then (k, S) else (k + 1, S.set k (T.getD (k0 + (i + 1)) [])))
  rw [e1, e2]
  have e3 : k0 + i + 1 - 1 = k0 + i := rfl
  by_cases h : T[k0 + i + 1] = T[k0 + i]
  ·rw [if_pos h]
   rw [if_pos (by simpa using h)] at hdt
   refine ⟨?_, q2, ?_, fun p hp => q4 p (by omega), by show k ≤ k0 + (i + 1); omega⟩
   ·rw [show k0 + (i + 1) + 1 = k0 + i + 1 + 1 by omega, hdt]; exact q1
   ·rw [show k0 + (i + 1) + 1 = k0 + i + 1 + 1 by omega, hdt]; exact q3
  ·rw [if_neg h]
   rw [if_neg (by simpa using h)] at hdt
   have q1 : k = _ := q1
   have q2 : S.length = T.length := q2
   have q3 : S.take k = _ := q3
   refine ⟨?_, by simp [q2], ?_, fun p hp => ?_, by show k + 1 ≤ k0 + (i + 1); omega⟩
   ·rw [show k0 + (i + 1) + 1 = k0 + i + 1 + 1 by omega, hdt, List.length_append, ← q1]; rfl
   ·show (S.set k T[k0 + i + 1]).take (k + 1) = _
    rw [show k0 + (i + 1) + 1 = k0 + i + 1 + 1 by omega, hdt, List.take_succ_eq_append_getElem (by simp; omega)]
    congr 1
    ·rw [List.take_set_of_le (Nat.le_refl _), q3]
    ·simp
   ·show (S.set k T[k0 + i + 1])[p]? = _
    rw [List.getElem?_set_ne (by omega)]
    exact q4 p (by omega)
 obtain ⟨g1, g2, g3⟩ := xl9 (step := xb6 set list [.i k0]) (T.length - k0 - 1) (fun i (s : Nat × List (List Int)) => [.i s.1, .i ((i + 1 : Nat) : Int), .r s.2]) f I 2 (fun s => [.i s.1, .i (T.length - k0 : Nat), .r s.2]) hI
  (fun i s hi hIs => by
   obtain ⟨k, S⟩ := s
   obtain ⟨q1, q2, q3, q4, q5⟩ := hIs
   have q1 : k = _ := q1
   have q2 : S.length = T.length := q2
   have q4 : ∀ p, k0 + i ≤ p → S[p]? = T[p]? := q4
   have hj : k0 + i + 1 < T.length := by omega
   have hdl := xeM T (k0 + i + 1) (by omega) (by omega)
   have e1 : T.getD (k0 + (i + 1)) [] = T[k0 + i + 1] := xbq (i := k0 + i + 1) hj
   have e2 : T.getD (k0 + i) [] = T[k0 + i] := xbq (by omega)
   have s1 : S.getD (k0 + i + 1) [] = T[k0 + i + 1] := by rw [List.getD_eq_getElem?_getD, q4 _ (by omega), List.getElem?_eq_getElem hj]; rfl
   have s2 : S.getD (k0 + i) [] = T[k0 + i] := by rw [List.getD_eq_getElem?_getD, q4 _ (by omega), List.getElem?_eq_getElem (by omega)]; rfl
   have hw1 : IntKind.i64.wrap (((i + 1 : Nat) : Int) - 1) = ((i : Nat) : Int) := by rw [xc2 (by omega)]; omega
   have hw2 : IntKind.i64.wrap ((k : Int) + 1) = ((k + 1 : Nat) : Int) := xeA (by omega)
   have hw3 : IntKind.i64.wrap (((i + 1 : Nat) : Int) + 1) = ((i + 1 + 1 : Nat) : Int) := xeA (by omega)
   unfold xb6 xmf xiY xgL xc1 xfw
   rw [hT]
   simp only [gi_z, gi_1, gr_2, gr_1, gr_z, xag, shI, loN, Int.toNat_natCast, hw1, hw2, hw3]
   rw [decide_eq_true (by omega), cond_true, xaa (by omega), xaa (by unfold inR; omega), xaa (by omega), xaa (by unfold inR; omega)]
   rw [show ((k0 : Int) + ((i + 1 : Nat) : Int)).toNat = k0 + i + 1 by omega, show ((k0 : Int) + ((i : Nat) : Int)).toNat = k0 + i by omega, s1, s2]
   have hq := xuu (h3at (k0 + i + 1) hj) (h3at (k0 + i) (by omega))
   rw [hq]
   show _ = some (0, [U.i (f i (k, S)).1, U.i ((i + 1 + 1 : Nat) : Int), U.r (f i (k, S)).2])
   have ef : f i (k, S) = if T.getD (k0 + (i + 1)) [] = T.getD (k0 + i) [] then (k, S) else (k + 1, S.set k (T.getD (k0 + (i + 1)) [])) := rfl
   rw [ef, e1, e2]
   by_cases h : T[k0 + i + 1] = T[k0 + i]
   ·rw [if_pos h, decide_eq_true h]; rfl
   ·rw [if_neg h, decide_eq_false h]
    simp only [Bool.not_false, cond_true]
    rw [xaa (by omega), xaa (by unfold inR; omega), xaa (by unfold inR; omega), xaa (by unfold inR; omega), xzJ]
    rw [xut (a := [col T[k0 + i + 1] 0, col T[k0 + i + 1] 1, col T[k0 + i + 1] 2]) (b := T[k0 + i + 1]) rfl (h3at _ hj) rfl rfl rfl])
  (fun s hIs => by
   obtain ⟨k, S⟩ := s
   unfold xb6 xiY
   rw [hT]
   simp only [gi_z, gi_1, gr_2, gr_1, gr_z, xag, loN, Int.toNat_natCast]
   rw [decide_eq_false (by omega), cond_false, show T.length - k0 - 1 + 1 = T.length - k0 by omega]) (s := (k0, T))
  ⟨by rw [Nat.add_zero, hd, List.length_take]; show k0 = _; omega, rfl, by rw [Nat.add_zero, hd], fun p _ => rfl, Nat.le_refl _⟩
 have ei : xcN set list [.i k0] = [.i k0, .i ((0 + 1 : Nat) : Int), .r T] := by
  unfold xcN
  rw [hT]; rfl
 unfold xaw
 rw [ei]
 refine ⟨g1, _, _, g2, ?_, g3.2.1, ?_⟩
 ·have := g3.1
  rw [this]
  rw [show k0 + (T.length - k0 - 1) + 1 = T.length by omega]
  exact (xeM T T.length (by omega) (Nat.le_refl _)).1
 ·have := g3.2.2.1
  rw [show k0 + (T.length - k0 - 1) + 1 = T.length by omega, List.take_length] at this
  exact this
theorem xAj {set : Int} {list T : List (List Int)} (hT : xaS 3 [0, 1, 2] (gr (xas set list).snd 1) = T) (h3 : ∀ x ∈ T, x.length = 3) (h2 : 2 ≤ T.length) (hlen : T.length ≤ 10000000) :
  xaM (xb7 set list) (xfx set list) ∧
  (((xbt set list).1 = 1 ∧ 0 ≤ gi (xbt set list).2 0 ∧ gi (xbt set list).2 0 ≤ ((gr (xbt set list).2 1).length : Int) ∧ (gr (xbt set list).2 1).take (gi (xbt set list).2 0).toNat = ddR T) ∨ ((xbt set list).1 = 3 ∧ ddR T = T)) := by
 have h3at : ∀ j (hj : j < T.length), T[j].length = 3 := fun j hj => h3 _ (List.getElem_mem hj)
 refine xxW (step := xb7 set list) (T.length - 1) (fun i xs => xs = [.i ((i + 1 : Nat) : Int)] ∧ ∀ j (hj : j < T.length), 0 < j → j < i + 1 → T[j] ≠ T[j - 1])
  (fun r => (r.1 = 1 ∧ 0 ≤ gi r.2 0 ∧ gi r.2 0 ≤ ((gr r.2 1).length : Int) ∧ (gr r.2 1).take (gi r.2 0).toNat = ddR T) ∨ (r.1 = 3 ∧ ddR T = T)) (fun i xs hi hinv => ?_) (fun xs hinv => ?_) ⟨rfl, fun j hj h0 h1 => by omega⟩
 ·obtain ⟨rfl, hne⟩ := hinv
  have hj : i + 1 < T.length := by omega
  have hw1 : IntKind.i64.wrap (((i + 1 : Nat) : Int) - 1) = ((i : Nat) : Int) := by rw [xc2 (by omega)]; omega
  have hw3 : IntKind.i64.wrap (((i + 1 : Nat) : Int) + 1) = ((i + 1 + 1 : Nat) : Int) := xeA (by omega)
  have hstep : xb7 set list [.i ((i + 1 : Nat) : Int)] = bif decide (T[i + 1] = T[i]) then xac ((0 : Int) ≤ ((i + 1 : Nat) : Int) ∧ ((i + 1 : Nat) : Int) ≤ (T.length : Int)) (xac ((xaM (xb6 set list [.i ((i + 1 : Nat) : Int)]) (xcN set list [.i ((i + 1 : Nat) : Int)]))) (xac (((0 : Int) ≤ gi (xaw set list [.i ((i + 1 : Nat) : Int)]).snd 0) ∧ (gi (xaw set list [.i ((i + 1 : Nat) : Int)]).snd 0 ≤ (↑(gr (xaw set list [.i ((i + 1 : Nat) : Int)]).snd 2).length : Int))) (xac (((↑(loN (xag (↑(gr (xaw set list [.i ((i + 1 : Nat) : Int)]).snd 2).length : Int) (some (gi (xaw set list [.i ((i + 1 : Nat) : Int)]).snd 0)) none).snd.fst) : Int) ≤ (xb5 set list [.i ((i + 1 : Nat) : Int)])) ∧ ((xb5 set list [.i ((i + 1 : Nat) : Int)]) ≤ (↑(gr (xaw set list [.i ((i + 1 : Nat) : Int)]).snd 2).length : Int))) (xac (((0 : Int) ≤ gi (xaw set list [.i ((i + 1 : Nat) : Int)]).snd 0) ∧ (gi (xaw set list [.i ((i + 1 : Nat) : Int)]).snd 0 ≤ (↑((xea set list [.i ((i + 1 : Nat) : Int)]) ++ List.drop ((xb5 set list [.i ((i + 1 : Nat) : Int)])).toNat (gr (xaw set list [.i ((i + 1 : Nat) : Int)]).snd 2)).length : Int))) (some (1, [U.i ((xhM set list [.i ((i + 1 : Nat) : Int)])), U.r ((xea set list [.i ((i + 1 : Nat) : Int)]) ++ List.drop ((xb5 set list [.i ((i + 1 : Nat) : Int)])).toNat (gr (xaw set list [.i ((i + 1 : Nat) : Int)]).snd 2))])))))) else some (0, [U.i ((i + 1 + 1 : Nat) : Int)]) := by
   unfold xb7 xmi xmh xmg
   rw [hT]
   simp only [gi_z, hw1, hw3]
   rw [decide_eq_true (by omega), cond_true, xaa (xaK hj), xaa (xaK hj), xaa (xaK (by omega)), xaa (xaK (by omega)), xbp hj, xbp (show i < T.length by omega), xuu (h3at _ hj) (h3at _ (by omega))]
  by_cases h : T[i + 1] = T[i]
  ·right
   have hd : ddR (T.take (i + 1 + 1)) = T.take (i + 1) := by
    rw [xoA (by omega) hj, if_pos (by simpa using h)]
    exact xrL (i + 1) (by omega) (by omega) hne
   obtain ⟨g1, k, S, g2, g3, g4, g5⟩ := xAi hT h3 (by omega) hj hlen hd
   refine ⟨0, [.i k, .r (S.take k ++ List.replicate (S.length - k) [0, 0, 0] ++ S.drop S.length)], ?_, .inl ⟨rfl, ?_, ?_, ?_⟩⟩
   ·rw [hstep, decide_eq_true h, cond_true, xaa (by omega), xaa g1]
    unfold xhM xea xkV xb5
    rw [g2]
    simp only [gi_z, gr_2, gr_1, gr_z, xag, loN, Option.getD_some, Int.toNat_natCast]
    rw [xaa (by omega), xaa (by omega), xaa (by simp; omega)]
   ·rw [gi_z]; omega
   ·rw [gi_z, gr_1, gr_z]; simp; omega
   ·rw [gi_z, gr_1, gr_z, Int.toNat_natCast, List.append_assoc, List.take_append_of_le_length (by simp; omega), List.take_take, Nat.min_self, g5]
  ·left
   refine ⟨[.i ((i + 1 + 1 : Nat) : Int)], ?_, rfl, fun j hj' h0 h1 => ?_⟩
   ·rw [hstep, decide_eq_false h]; rfl
   ·by_cases e : j = i + 1
    ·subst e; simpa using h
    ·exact hne j hj' h0 (by omega)
 ·obtain ⟨rfl, hne⟩ := hinv
  refine ⟨2, [.i ((T.length - 1 + 1 : Nat) : Int)], ?_, .inr ⟨rfl, ?_⟩⟩
  ·unfold xb7
   rw [hT]
   simp only [gi_z]
   rw [decide_eq_false (by omega)]; rfl
  ·have := xrL T.length (by omega) (Nat.le_refl _) (fun j hj h0 h1 => hne j hj h0 (by omega))
   rwa [List.take_length] at this
theorem xAh {m : Nat} (hm : m < 512) {list : List (List Int)} (hs : xhm list) (hl : list.length ≤ 1000000) : xdC m list ∧ xaR m list = byF m list := by
 obtain ⟨a1, _⟩ := xyJ hm list
 obtain ⟨b1, b2⟩ := xAk hm hs hl
 have hraw : (xlH m list).length ≤ 1000009 := by
  unfold xlH
  rw [List.length_append, List.length_map, List.length_map]
  have h1 : ((List.range 9).filter m.testBit).length ≤ 9 := Nat.le_trans (List.length_filter_le _ _) (by simp)
  have h2 := List.length_filter_le (fun g => !cov m g) list
  omega
 have hT : xaS 3 [0, 1, 2] (gr (xas m list).snd 1) = xfM (leL [0, 1, 2]) (xlH m list) := by
  rw [b2]
  unfold xaS
  rw [xxV (xqP m list)]
 have h3 : ∀ x ∈ xfM (leL [0, 1, 2]) (xlH m list), x.length = 3 := fun x hx => xqP m list x (xwO.1 hx)
 have hTl : (xfM (leL [0, 1, 2]) (xlH m list)).length = (xlH m list).length := xeG _
 unfold xdC xaR xkT xkU
 rw [hT]
 have key : (xfM (leL [0, 1, 2]) (xlH m list)).length < 2 → ddR (xfM (leL [0, 1, 2]) (xlH m list)) = xfM (leL [0, 1, 2]) (xlH m list) := by
  intro h
  generalize xfM (leL [0, 1, 2]) (xlH m list) = T at *
  match T, h with
  | [], _ => rfl
  | [x], _ => rfl
 by_cases h2 : (xfM (leL [0, 1, 2]) (xlH m list)).length < 2
 ·refine ⟨⟨a1, b1, by rw [b2]; omega, fun h => ?_⟩, ?_⟩
  ·rw [decide_eq_true (by omega)] at h; cases h
  ·rw [decide_eq_true (by omega), cond_true]
   exact (key h2).symm
 ·obtain ⟨c1, c2⟩ := xAj hT h3 (by omega) (by omega)
  rw [decide_eq_false (by omega), cond_false]
  rcases c2 with ⟨d1, d2, d3, d4⟩ | ⟨d1, d2⟩
  ·refine ⟨⟨a1, b1, by rw [b2]; omega, fun _ => ⟨c1, fun _ => ⟨d2, d3⟩⟩⟩, ?_⟩
   rw [d1]
   exact d4
  ·refine ⟨⟨a1, b1, by rw [b2]; omega, fun _ => ⟨c1, fun h => by rw [d1] at h; cases h⟩⟩, ?_⟩
   rw [d1]
   exact d2.symm
end Go.Proofs.YtikhnofbbcmpeaaGreat
set_option linter.unusedVariables false
set_option maxRecDepth 100000
namespace Go.Proofs.YtikhnofbbcmpeaaGreat
open Go Go.Sy
noncomputable def cmpL : List (List Int) → List (List Int) → Int
 | [], [] => 0
 | [], _ :: _ => -1
 | _ :: _, [] => 1
 | x :: r, y :: r' => if cfO x y = 0 then cmpL r r' else cfO x y
noncomputable def xpD (x b : List (List Int)) : Bool := decide (x.length < b.length) || (x.length == b.length && decide (cmpL x b < 0))
def allF (list : List (List Int)) : Nat := list.foldl (fun a g => if col g 3 != 0 then a ||| 2 ^ (col g 0).toNat else a) 0
theorem xug : ∀ (list : List (List Int)) (a : Nat), xhm list → a < 512 → (list.foldl (fun a g => if col g 3 != 0 then a ||| 2 ^ (col g 0).toNat else a) a) < 512 ∧ ∀ k, (list.foldl (fun a g => if col g 3 != 0 then a ||| 2 ^ (col g 0).toNat else a) a).testBit k = (a.testBit k || list.any fun g => col g 3 != 0 && decide ((col g 0).toNat = k))
 | [], a, _, ha => ⟨ha, fun k => by simp⟩
 | g :: r, a, hs, ha => by
  obtain ⟨q1, q2⟩ := hs g List.mem_cons_self
  have hr : xhm r := fun x hx => hs x (List.mem_cons_of_mem _ hx)
  rw [List.foldl_cons]
  cases h3 : (col g 3 != 0) with
  | false =>
   rw [if_neg (by decide)]
   obtain ⟨g1, g2⟩ := xug r a hr ha
   refine ⟨g1, fun k => ?_⟩
   rw [g2, List.any_cons, h3, Bool.false_and, Bool.false_or]
  | true =>
   rw [if_pos rfl]
   have hlt : a ||| 2 ^ (col g 0).toNat < 512 := Nat.or_lt_two_pow (n := 9) ha (Nat.pow_lt_pow_right (by omega) (by omega))
   obtain ⟨g1, g2⟩ := xug r _ hr hlt
   refine ⟨g1, fun k => ?_⟩
   rw [g2, List.any_cons, h3, Bool.true_and, Nat.testBit_or, Nat.testBit_two_pow, Bool.or_assoc]
theorem xya {list : List (List Int)} (hs : xhm list) : allF list < 512 ∧ ∀ k, (allF list).testBit k = list.any fun g => col g 3 != 0 && decide ((col g 0).toNat = k) := by
 obtain ⟨h1, h2⟩ := xug list 0 hs (by omega)
 refine ⟨h1, fun k => ?_⟩
 have := h2 k
 rw [Nat.zero_testBit, Bool.false_or] at this
 exact this
theorem xzu {list : List (List Int)} (hs : xhm list) (hl : list.length ≤ 1000000) : xaM (xbn list) (xel list) ∧ gi (xdO list).snd 0 = ((allF list : Nat) : Int) := by
 have hin : ∀ (l : List (List Int)) (a : Nat), xhm l → a < 512 → runL (fun (s : Nat) x => .inl (if col x 3 != 0 then s ||| 2 ^ (col x 0).toNat else s)) a l = (.inl (l.foldl (fun a g => if col g 3 != 0 then a ||| 2 ^ (col g 0).toNat else a) a) : Nat ⊕ (Nat × List U)) := fun l a _ _ => xho _ l a
 obtain ⟨h1, h2⟩ := xdL (step := xbn list) list (fun i (s : Nat) => [.i (s : Int), .i i]) (fun s x => .inl (if col x 3 != 0 then s ||| 2 ^ (col x 0).toNat else s)) (fun i s => s < 512) (fun s => (2, [.i (s : Int), .i list.length])) 0
  (fun i s hi _ hI => by
   obtain ⟨q1, q2⟩ := hs _ (List.getElem_mem hi)
   refine ⟨?_, fun s' hs' => ?_⟩
   ·unfold xbn
    simp only [gi_z, gi_1, dlt hi, xaa (xaK hi), xeA (show i < 9223372036854775807 by omega), xbp hi]
    generalize hx : list[i] = x at *
    rw [xaa q1]
    have hb := xzO hI (show (col x 0).toNat < 9 by omega)
    rw [Int.toNat_of_nonneg q1] at hb
    have hb' : bOr IntKind.i64 (s : Int) (bShl IntKind.i64 1 (x.getD 0 0)) = ((s ||| 2 ^ (col x 0).toNat : Nat) : Int) := hb
    rw [hb']
    show (bif col x 3 != 0 then _ else _) = _
    cases (col x 3 != 0)
    ·rw [if_neg (by decide)]; rfl
    ·rw [if_pos rfl]; rfl
   ·cases hs'
    split
    ·exact Nat.or_lt_two_pow (n := 9) hI (Nat.pow_lt_pow_right (by omega) (by omega))
    ·exact hI)
  (fun i s hi _ => by
   have : i = list.length := by omega
   subst this
   unfold xbn
   simp only [gi_z, gi_1, dnlt]) (s := 0) (by omega)
 refine ⟨h1, ?_⟩
 have : xdO list = xaC (xbn list) [.i ((0 : Nat) : Int), .i ((0 : Nat) : Int)] := rfl
 rw [this, h2, List.drop_zero, xho]
 exact gi_z _ _
theorem xqL : ∀ {x b : List (List Int)} {i : Nat} (hx : i < x.length) (hb : i < b.length), (∀ j (h1 : j < x.length) (h2 : j < b.length), j < i → cfO x[j] b[j] = 0) → cfO x[i] b[i] ≠ 0 → cmpL x b = cfO x[i] b[i]
 | x :: r, y :: r', 0, _, _, _, h => by
  unfold cmpL
  exact if_neg h
 | x :: r, y :: r', i + 1, hx, hb, h0, h => by
  unfold cmpL
  have e : cfO x y = 0 := h0 0 (by simp) (by simp) (by omega)
  rw [if_pos e]
  exact xqL (by simpa using hx) (by simpa using hb) (fun j h1 h2 h3 => h0 (j + 1) (by simpa using h1) (by simpa using h2) (by omega)) h
theorem xsY : ∀ {x b : List (List Int)}, x.length = b.length → (∀ j (h1 : j < x.length) (h2 : j < b.length), cfO x[j] b[j] = 0) → cmpL x b = 0
 | [], [], _, _ => rfl
 | x :: r, y :: r', hl, h0 => by
  unfold cmpL
  have e : cfO x y = 0 := h0 0 (by simp) (by simp)
  rw [if_pos e]
  exact xsY (by simpa using hl) fun j h1 h2 => h0 (j + 1) (by simpa using h1) (by simpa using h2)
theorem xxh {list : List (List Int)} {m : Nat} {b x : List (List Int)} (hby : xaR m list = x) (hl : x.length ≤ 9223372036854775807) (hlen : x.length = b.length) :
  xaM (xbm list [.i m, .r b]) (xcj list [.i m, .r b]) ∧
  (bif (xbi list [.i m, .r b]).fst.beq 1 then (1 : Int) else bif (xbi list [.i m, .r b]).fst.beq 2 then gi (xbi list [.i m, .r b]).snd 0 else (xdN list [.i m, .r b])) = cmpL x b := by
 have hs1 : xdN list [.i m, .r b] = 0 := by
  unfold xdN
  simp only [gi_z, gr_1, gr_z, hby]
  rw [decide_eq_false (by omega)]; rfl
 rw [hs1]
 obtain ⟨h1, h2⟩ := xg5 (step := xbm list [.i m, .r b]) x.length (fun i => cfO (x.getD i []) (b.getD i []) != 0) (fun i => [.i 0, .i i]) (fun i => [.i (cfO (x.getD i []) (b.getD i []))]) 1 3 [.i 0, .i x.length]
  (fun i hi => by
   unfold xbm xf2
   simp only [gi_z, gi_1, gr_1, gr_z]
   rw [hby, dlt hi, xaa (xaK hi), xaa (xaK hi), decide_eq_false (show ¬ ((i : Int) ≥ (b.length : Int)) by omega), cond_false, xaa (xaK (by omega)), xaa (xaK (by omega)), xaa (xiH _ _ _ _ _ _).1, xeA (show i < 9223372036854775807 by omega), Int.toNat_natCast]
   rfl)
  (by
   unfold xbm
   simp only [gi_z, gi_1]
   rw [hby, dnlt])
 have hi : xcj list [.i m, .r b] = [.i 0, .i ((0 : Nat) : Int)] := rfl
 unfold xbi
 rw [hi]
 refine ⟨h1, ?_⟩
 rcases h2 with ⟨i, hi, hp, hn, hg⟩ | ⟨hn, hg⟩
 ·rw [hg]
  show gi [.i (cfO (x.getD i []) (b.getD i []))] 0 = _
  rw [gi_z, xbq hi, xbq (by omega)]
  refine (xqL hi (by omega) (fun j q1 q2 q3 => ?_) ?_).symm
  ·have := hn j q3
   rw [xbq q1, xbq q2] at this
   simpa using this
  ·rw [xbq hi, xbq (show i < b.length by omega)] at hp
   simpa using hp
 ·rw [hg]
  show (0 : Int) = _
  refine (xsY hlen fun j q1 q2 => ?_).symm
  have := hn j q1
  rw [xbq q1, xbq q2] at this
  simpa using this
noncomputable def xgz (list : List (List Int)) (i : Nat) (b : List (List Int)) : List (List Int) := if subB i (allF list) = true then (if xpD (byF i list) b = true then byF i list else b) else b
noncomputable def fewF (list : List (List Int)) : List (List Int) := upto (xgz list) (allF list + 1) (byF 0 list)
theorem cmpI (a b : Nat) : (xal (a : Int) (b : Int) < 0 ↔ a < b) ∧ (xal (a : Int) (b : Int) = 0 ↔ a = b) := by
 rw [cmpC]
 by_cases h1 : a < b
 ·rw [if_pos (by omega)]; omega
 ·rw [if_neg (by omega)]
  by_cases h2 : b < a
  ·rw [if_pos (by omega)]; omega
  ·rw [if_neg (by omega)]; omega
theorem xmD (m : Nat) (list : List (List Int)) : (byF m list).length ≤ list.length + 9 := by
 unfold byF
 have h1 : ∀ l : List (List Int), (ddR l).length ≤ l.length := fun l => by
  cases l with
  | nil => exact Nat.le_refl _
  | cons x r =>
   have := (xeM (x :: r) (x :: r).length (by simp) (Nat.le_refl _)).1
   rwa [List.take_length] at this
 refine Nat.le_trans (h1 _) ?_
 rw [xeG]
 unfold xlH
 rw [List.length_append, List.length_map, List.length_map]
 have h1 : ((List.range 9).filter m.testBit).length ≤ 9 := Nat.le_trans (List.length_filter_le _ _) (by simp)
 have h2 := List.length_filter_le (fun g => !cov m g) list
 omega
theorem xsN {list : List (List Int)} (hs : xhm list) (hl : list.length ≤ 1000000) : xb3 list ∧ xcd list = fewF list := by
 obtain ⟨a1, a2⟩ := xzu hs hl
 obtain ⟨hall, _⟩ := xya hs
 obtain ⟨b1, b2⟩ := xAh (m := 0) (by omega) hs hl
 have hw : IntKind.i64.wrap (gi (xdO list).snd 0 + 1) = ((allF list + 1 : Nat) : Int) := by rw [a2]; exact xeA (by omega)
 obtain ⟨g1, g2, _⟩ := xl9 (step := xck list) (allF list + 1) (fun i (b : List (List Int)) => [.i i, .r b]) (xgz list) (fun _ _ => True) 3 (fun b => [.i (allF list + 1 : Nat), .r b]) (fun _ _ _ _ => trivial)
  (fun i b hi _ => by
   have hi5 : i < 512 := by omega
   obtain ⟨c1, c2⟩ := xAh hi5 hs hl
   have hxl := xmD i list
   unfold xck
   simp only [gi_z, gr_1, gr_z]
   rw [hw, decide_eq_true (by omega), cond_true, a2, xzR hi5 hall, xeA (by omega)]
   unfold xgz
   cases hsub : subB i (allF list) with
   | false => rw [if_neg (by decide)]; rfl
   | true =>
    rw [if_pos rfl, Bool.not_true, cond_false, xaa c1, c2]
    have hloop : (decide (xal (↑(byF i list).length : Int) (↑b.length : Int) < (0 : Int)) = false) → (((xal (↑(byF i list).length : Int) (↑b.length : Int) == (0 : Int)) = true) → ((xaM (xbm list [.i i, .r b]) (xcj list [.i i, .r b])))) := fun _ he => by
     have := (cmpI _ _).2.1 (by simpa using he)
     exact (xxh c2 (by omega) this).1
    rw [xaa hloop]
    have hcond : (decide (xal (↑(byF i list).length : Int) (↑b.length : Int) < (0 : Int)) || xal (↑(byF i list).length : Int) (↑b.length : Int) == (0 : Int) && decide ((bif (xbi list [.i i, .r b]).fst.beq 1 then (1 : Int) else bif (xbi list [.i i, .r b]).fst.beq 2 then gi (xbi list [.i i, .r b]).snd 0 else (xdN list [.i i, .r b])) < (0 : Int))) = xpD (byF i list) b := by
     unfold xpD
     by_cases he : (byF i list).length = b.length
     ·rw [(xxh c2 (by omega) he).2]
      have e1 : (xal (↑(byF i list).length : Int) (↑b.length : Int) == 0) = ((byF i list).length == b.length) := by rw [(cmpI _ _).2.2 he, he]; simp
      rw [e1]
      congr 1
      exact decide_eq_decide.2 (cmpI _ _).1
     ·have e1 : (xal (↑(byF i list).length : Int) (↑b.length : Int) == 0) = false := by
       simpa using fun h => he ((cmpI _ _).2.1 h)
      have e2 : ((byF i list).length == b.length) = false := by simpa using he
      rw [e1, e2, Bool.false_and, Bool.false_and]
      congr 1
      exact decide_eq_decide.2 (cmpI _ _).1
    rw [hcond]
    cases xpD (byF i list) b
    ·rw [if_neg (by decide)]; rfl
    ·rw [if_pos rfl]; rfl)
  (fun b _ => by
   unfold xck
   simp only [gi_z, gr_1, gr_z]
   rw [hw, decide_eq_false (by omega)]; rfl) (s := byF 0 list) trivial
 have hi : xdk list = [.i ((0 : Nat) : Int), .r (byF 0 list)] := by
  unfold xdk
  have := b2
  rw [show (xaR (0 : Int) list) = byF 0 list from this]; rfl
 unfold xb3 xcd xim
 rw [hi]
 refine ⟨⟨a1, b1, g1⟩, ?_⟩
 rw [g2]
 show gr [.i (allF list + 1 : Nat), .r (upto (xgz list) (allF list + 1) (byF 0 list))] 1 = _
 rw [gr_1, gr_z]
 rfl
end Go.Proofs.YtikhnofbbcmpeaaGreat
set_option linter.unusedVariables false
set_option maxRecDepth 100000
namespace Go.Proofs.YtikhnofbbcmpeaaGreat
open Go Go.Sy
abbrev ALog := Int × List (List Int)
noncomputable def xwE (x : List Int) : ALog := (col x 0, decL (col x 1))
noncomputable def xa0 (ships : List (List Int)) : List ALog := ships.map xwE
def xvT (ships : List (List Int)) : Prop := ∀ x ∈ ships, (decL (col x 1)).length ≤ 9223372036854775807
def risF : Int → List ALog → Bool
 | _, [] => true
 | b, x :: r => valF x.1 x.2 && decide (b < x.1) && risF x.1 r
noncomputable def rowO (x : List Int) : List Int := [col x 0, col x 0, encL (decL (col x 1))]
def xkm (s : Int) (logs : List ALog) : Option ALog := logs.find? fun x => x.1 == s
theorem xhB (s : Int) : ∀ ships : List (List Int), xbX 1 [s] (ships.map rowO) = (xkm s (xa0 ships)).map fun x => [x.1, encL x.2]
 | [] => rfl
 | x :: r => by
  have ih := xhB s r
  unfold xbX xkm xa0 at *
  rw [List.map_cons, List.map_cons, List.find?_cons, List.find?_cons]
  by_cases h : col x 0 = s
  ·have e1 : decide (List.take 1 (rowO x) = [s]) = true := decide_eq_true (by show [col x 0] = [s]; rw [h])
   have e2 : ((xwE x).1 == s) = true := by show (col x 0 == s) = true; rw [h]; simp
   rw [e1, e2]; rfl
  ·have e1 : decide (List.take 1 (rowO x) = [s]) = false := decide_eq_false (by show ¬ [col x 0] = [s]; simpa using h)
   have e2 : ((xwE x).1 == s) = false := by show (col x 0 == s) = false; simpa using h
   rw [e1, e2]; exact ih
noncomputable def xkP (ow t delay : Int) (s : Int × List (List Int)) (x : List Int) : (Int × List (List Int)) ⊕ (Nat × List U) :=
 if (!valF (col x 0) (decL (col x 1)) || decide (col x 0 ≤ s.1)) = true then .inr (0, [.i ow, .i t, .i delay, .r s.2]) else .inl (col x 0, putRow 1 [col x 0] [col x 0, encL (decL (col x 1))] s.2)
theorem xyu (ow t delay : Int) : ∀ (r pre : List (List Int)) (b : Int), (∀ x ∈ pre, col x 0 ≤ b) →
  (risF b (xa0 r) = true → ∃ b', runL (xkP ow t delay) (b, pre.map rowO) r = .inl (b', (pre ++ r).map rowO)) ∧
  (risF b (xa0 r) = false → ∃ rows, runL (xkP ow t delay) (b, pre.map rowO) r = .inr (0, [.i ow, .i t, .i delay, .r rows]))
 | [], pre, b, _ => ⟨fun _ => ⟨b, by simp [runL]⟩, fun h => by simp [xa0, risF] at h⟩
 | x :: r, pre, b, hpre => by
  have ex : xa0 (x :: r) = xwE x :: xa0 r := rfl
  have er : risF b (xwE x :: xa0 r) = (valF (col x 0) (decL (col x 1)) && decide (b < col x 0) && risF (col x 0) (xa0 r)) := rfl
  rw [ex, er]
  by_cases hv : (!valF (col x 0) (decL (col x 1)) || decide (col x 0 ≤ b)) = true
  ·have e : xkP ow t delay (b, pre.map rowO) x = .inr (0, [.i ow, .i t, .i delay, .r (pre.map rowO)]) := by unfold xkP; rw [if_pos hv]
   have hf : (valF (col x 0) (decL (col x 1)) && decide (b < col x 0)) = false := by
    rcases Bool.or_eq_true_iff.1 hv with h | h
    ·have : valF (col x 0) (decL (col x 1)) = false := by simpa using h
     rw [this]; rfl
    ·have : decide (b < col x 0) = false := decide_eq_false (by have := of_decide_eq_true h; omega)
     rw [this, Bool.and_false]
   rw [hf]
   refine ⟨(fun h => by cases h), fun _ => ⟨pre.map rowO, ?_⟩⟩
   unfold runL
   rw [e]
  ·have e0 : xkP ow t delay (b, pre.map rowO) x = .inl (col x 0, putRow 1 [col x 0] [col x 0, encL (decL (col x 1))] (pre.map rowO)) := by unfold xkP; rw [if_neg hv]
   have hv' : valF (col x 0) (decL (col x 1)) = true ∧ b < col x 0 := by
    simp only [Bool.or_eq_true, Bool.not_eq_true', decide_eq_true_eq, not_or] at hv
    exact ⟨by simpa using hv.1, by omega⟩
   have hno : (xbX 1 [col x 0] (pre.map rowO)).isSome = false := by
    rw [xhB]
    have : xkm (col x 0) (xa0 pre) = none := by
     unfold xkm xa0
     rw [List.find?_eq_none]
     intro y hy
     obtain ⟨z, hz, rfl⟩ := List.mem_map.1 hy
     have := hpre z hz
     show ¬ (col z 0 == col x 0) = true
     intro h
     have h := eq_of_beq h
     omega
    rw [this]; rfl
   have e : xkP ow t delay (b, pre.map rowO) x = .inl (col x 0, (pre ++ [x]).map rowO) := by
    rw [e0]
    unfold putRow
    rw [hno, cond_false, List.map_append]
    rfl
   have hf : (valF (col x 0) (decL (col x 1)) && decide (b < col x 0)) = true := by rw [hv'.1, decide_eq_true hv'.2]; rfl
   rw [hf, Bool.true_and]
   obtain ⟨i1, i2⟩ := xyu ow t delay r (pre ++ [x]) (col x 0) (fun y hy => by
    rcases List.mem_append.1 hy with hy | hy
    ·have := hpre y hy; omega
    ·rw [List.mem_singleton.1 hy]; exact Int.le_refl _)
   unfold runL
   rw [e]
   refine ⟨fun h => ?_, fun h => i2 h⟩
   obtain ⟨b', hb⟩ := i1 h
   exact ⟨b', by show runL (xkP ow t delay) (col x 0, (pre ++ [x]).map rowO) r = _; rw [hb, List.append_assoc]; rfl⟩
theorem xuA {ow t delay : Int} {office ships list : List (List Int)} (hs : ships.length ≤ 9223372036854775807) (hd : xvT ships) :
  xaM (xbl ow t delay office ships list) (xcb ow t delay office ships list) ∧
  (risF 0 (xa0 ships) = true → (xau ow t delay office ships list).1.beq 1 = false ∧ gr (xau ow t delay office ships list).2 3 = ships.map rowO) ∧
  (risF 0 (xa0 ships) = false → (xau ow t delay office ships list).1.beq 1 = true) := by
 obtain ⟨h1, h2⟩ := xdL (step := xbl ow t delay office ships list) ships (fun i (s : Int × List (List Int)) => [.b false, .i s.1, .i i, .r s.2]) (xkP ow t delay) (fun _ _ => True) (fun s => (2, [.b false, .i s.1, .i ships.length, .r s.2])) 0
  (fun i s hi _ _ => ⟨by
   unfold xbl xke
   simp only [gi_2, gi_1, gi_z, gb_z, gr_3, gr_z, dlt hi, xaa (xaK hi), xeA (show i < 9223372036854775807 by omega), xbp hi]
   have hx := hd _ (List.getElem_mem hi)
   generalize ships[i] = x at *
   obtain ⟨v1, v2⟩ := xey (col x 0) (decL (col x 1)) hx
   rw [xaa v1, v2]
   unfold xkP
   cases h : (!valF (col x 0) (decL (col x 1)) || decide (col x 0 ≤ s.1)) with
   | true => rw [if_pos rfl]; rfl
   | false => rw [if_neg (by decide)]; rfl, fun _ _ => trivial⟩)
  (fun i s hi _ => by
   have : i = ships.length := by omega
   subst this
   unfold xbl
   simp only [gi_2, gi_1, gi_z, gb_z, gr_3, gr_z, dnlt]) (s := (0, [])) trivial
 have hi : xcb ow t delay office ships list = [.b false, .i 0, .i ((0 : Nat) : Int), .r []] := rfl
 unfold xau
 rw [hi]
 have g := xyu ow t delay ships [] 0 (fun x hx => by cases hx)
 simp only [List.map_nil, List.nil_append] at g
 obtain ⟨g1, g2⟩ := g
 refine ⟨h1, fun h => ?_, fun h => ?_⟩
 ·obtain ⟨b', hb⟩ := g1 h
  rw [h2, List.drop_zero, hb]
  refine ⟨rfl, ?_⟩
  show gr [.b false, .i b', .i ships.length, .r (ships.map rowO)] 3 = _
  rw [gr_3, gr_z]
 ·obtain ⟨rows, hr⟩ := g2 h
  rw [h2, List.drop_zero, hr]; rfl
def xnG (logs : List ALog) (c : List Int) : Bool := !(xkm (col c 0) logs).isSome
theorem xwp {ow t delay : Int} {office ships list : List (List Int)} (hl : list.length ≤ 9223372036854775807) (hs : ships.length ≤ 9223372036854775807) (hd : xvT ships) (hr : risF 0 (xa0 ships) = true) :
  xaM (xbk ow t delay office ships list) (xcY ow t delay office ships list) ∧
  decide ((bif (xbM ow t delay office ships list).fst.beq 1 then gi (xbM ow t delay office ships list).snd 0 else (-1 : Int)) ≥ (0 : Int)) = list.any (xnG (xa0 ships)) := by
 have hrows := ((xuA (ow := ow) (t := t) (delay := delay) (office := office) (list := list) hs hd).2.1 hr).2
 refine xiU (step := xbk ow t delay office ships list) (l := list) (p := xnG (xa0 ships)) 1 (fun i hi => ?_) ?_ rfl
 ·unfold xbk
  simp only [gi_1, gi_z, dlt hi, xaa (xaK hi), xeA (show i < 9223372036854775807 by omega), xbp hi]
  rw [show (xau ow t delay office ships list).snd = (xau ow t delay office ships list).2 from rfl, hrows, xhB]
  unfold xnG
  rw [Option.isSome_map]
 ·unfold xbk
  simp only [gi_1, gi_z, dnlt]
def xmA (ow t delay : Int) (office : List (List Int)) (logs : List ALog) (list : List (List Int)) : Bool :=
 valF ow office && ow == 0 && chF list && tmF t && decide (0 ≤ delay) && decide (delay ≤ 100000) && risF 0 logs && !list.any (xnG logs)
def xhj (ow t delay : Int) (office list : List (List Int)) : Bool := valF ow office && ow == 0 && chF list && tmF t && decide (0 ≤ delay) && decide (delay ≤ 100000)
theorem xt2 (ow t delay : Int) (office : List (List Int)) (logs : List ALog) (list : List (List Int)) : xmA ow t delay office logs list = (xhj ow t delay office list && risF 0 logs && !list.any (xnG logs)) := rfl
theorem xrR {ow t delay : Int} {office list : List (List Int)} (ho : office.length ≤ 9223372036854775807) (hl : list.length ≤ 9223372036854775807) :
  (!xab ow office || ow != (0 : Int) || !xaz list || !xav t || decide (delay < (0 : Int)) || decide (delay > (100000 : Int))) = !xhj ow t delay office list := by
 rw [(xey ow office ho).2, (xiI list hl).2, xjJ]
 have e1 : decide (delay < 0) = !decide (0 ≤ delay) := by
  by_cases h : delay < 0
  ·rw [decide_eq_true h, decide_eq_false (by omega)]; rfl
  ·rw [decide_eq_false h, decide_eq_true (by omega)]; rfl
 have e2 : decide (delay > 100000) = !decide (delay ≤ 100000) := by
  by_cases h : delay > 100000
  ·rw [decide_eq_true h, decide_eq_false (by omega)]; rfl
  ·rw [decide_eq_false h, decide_eq_true (by omega)]; rfl
 rw [e1, e2]
 unfold xhj
 show (!valF ow office || !(ow == 0) || !chF list || !tmF t || !decide (0 ≤ delay) || !decide (delay ≤ 100000)) = _
 cases valF ow office <;> cases (ow == 0) <;> cases chF list <;> cases tmF t <;> cases decide (0 ≤ delay) <;> cases decide (delay ≤ 100000) <;> rfl
theorem xzE {n : Int} (h0 : -1000000000 ≤ n) (h1 : n ≤ 1000000000) : (Lit.int .i64 n).wf = true := by
 have e1 : IntKind.i64.min = -9223372036854775808 := by decide
 have e2 : IntKind.i64.max = 9223372036854775807 := by decide
 unfold Lit.wf
 simp only [e1, e2, Bool.and_eq_true, decide_eq_true_eq]
 omega
def xoL (logs : List ALog) (c : List Int) : List (List Int) := ((xkm (col c 0) logs).getD (0, [])).2
def xtm (logs : List ALog) (tm dl : Int) (c : List Int) : Bool := decide (col c 2 + dl > tm) || (xr3 tm (xoL logs c)).contains (col c 1)
def offF (logs : List ALog) (c : List Int) : Bool := decide (xtI 0 (-1) (xoL logs c) < col c 2) || !onF (col c 2) true (xoL logs c)
def updF (logs : List ALog) (c g : List Int) : List Int := [col g 0, col g 1, b2 (col g 2 != 0), b2 (col g 3 != 0 && offF logs c)]
def xle (office : List (List Int)) (logs : List ALog) (tm dl : Int) (gs : List (List Int)) (c : List Int) : List (List Int) :=
 bif xtm logs tm dl c then gs else
 bif gs.any (xe5 c) then gs.map fun g => bif xe5 c g then updF logs c g else g
 else gs ++ [updF logs c [col c 0, col c 1, b2 (!xve (col c 1) (-1) office), 1]]
def xfN (office : List (List Int)) (logs : List ALog) (tm dl : Int) (list : List (List Int)) : List (List Int) := (xlR (list.foldl (xle office logs tm dl) [])).map xlB
theorem xwT (n : Int) (l : List Int) : hasN n (xc5 l) = l.contains n := by
 unfold hasN xc5
 rw [List.any_map, List.contains_eq_any_beq]
 rfl
theorem xwb : ∀ {logs : List ALog} {b : Int}, risF b logs = true → ∀ x ∈ logs, valF x.1 x.2 = true ∧ b < x.1
 | [], _, _, x, hx => by cases hx
 | y :: r, b, h, x, hx => by
  unfold risF at h
  simp only [Bool.and_eq_true, decide_eq_true_eq] at h
  rcases List.mem_cons.1 hx with rfl | hx
  ·exact h.1
  ·have := xwb h.2 x hx
   exact ⟨this.1, by omega⟩
theorem xr4 {logs : List ALog} (h : risF 0 logs = true) (c : List Int) : (xoL logs c).length ≤ 200 := by
 unfold xoL xkm
 cases hf : logs.find? fun x => x.1 == col c 0 with
 | none => simp
 | some x => exact (xtg (xwb h x (List.mem_of_find?_eq_some hf)).1).1
theorem xox (ships : List (List Int)) (c : List Int) : gSl (ships.map rowO) c = xoL (xa0 ships) c := by
 unfold gSl xzt xoL
 rw [xhB]
 cases xkm (c.getD 0 0) (xa0 ships) with
 | none => exact xfd _
 | some x => exact xfd _
theorem xs3 {list : List (List Int)} (h : chF list = true) : list.length ≤ 200 ∧ ∀ c ∈ list, 0 ≤ col c 2 ∧ col c 2 ≤ 10000000 ∧ 1 ≤ col c 1 ∧ col c 1 ≤ 10000 ∧ 1 ≤ col c 0 ∧ col c 0 ≤ 8 := by
 unfold chF at h
 simp only [Bool.and_eq_true, decide_eq_true_eq, Bool.not_eq_true'] at h
 refine ⟨h.1, fun c hc => ?_⟩
 have := List.any_eq_false.1 h.2 c hc
 unfold badC tmF itF at this
 simp only [Bool.not_eq_true, Bool.or_eq_false_iff, Bool.not_eq_false', Bool.and_eq_true, decide_eq_true_eq, decide_eq_false_iff_not] at this
 omega
theorem xtS {ow t delay : Int} {office ships list : List (List Int)} (ho : office.length ≤ 9223372036854775807) (hc : xhj ow t delay office list = true) (hr : risF 0 (xa0 ships) = true) :
  xcS ow t delay office (ships.map rowO) list ∧ xar ow t delay office (ships.map rowO) list = xfN office (xa0 ships) t delay list := by
 unfold xhj at hc
 simp only [Bool.and_eq_true, decide_eq_true_eq] at hc
 obtain ⟨⟨⟨⟨⟨hv, h0⟩, hch⟩, htm⟩, hd0⟩, hd1⟩ := hc
 obtain ⟨hlen, hcs⟩ := xs3 hch
 have eskip : ∀ c ∈ list, xp6 (ships.map rowO) t delay c = xtm (xa0 ships) t delay c ∧ GPre office (ships.map rowO) ow t delay c := by
  intro c hc
  obtain ⟨q1, q2, q3, q4, q5, q6⟩ := hcs c hc
  have hsl := xr4 hr c
  have hsh := xuo (gSo (ships.map rowO) c) t (xoL (xa0 ships) c) (by omega)
  have hcn := xt0 (col c 1) (xc5 (xr3 t (xoL (xa0 ships) c))) (by
   have h1 := xsj (xlg t (xoL (xa0 ships) c))
   have h2 := xjK t (xoL (xa0 ships) c)
   unfold xc5 xr3
   rw [List.length_map]
   omega)
  have elate : xw7 t delay c = decide (col c 2 + delay > t) := by
   unfold xw7
   have q1' : 0 ≤ c.getD 2 0 := q1
   have q2' : c.getD 2 0 ≤ 10000000 := q2
   rw [xc2 (by omega)]
  have e : xp6 (ships.map rowO) t delay c = xtm (xa0 ships) t delay c := by
   unfold xp6 xtm
   rw [elate, xox, hsh.2]
   congr 1
   exact hcn.2.trans (xwT _ _)
  refine ⟨e, ⟨xzE (n := col c 0) (by omega) (by omega), xzE (n := col c 1) (by omega) (by omega), fun _ => ?_, fun _ => ?_⟩⟩
  ·rw [xox]
   exact ⟨hsh.1, by rw [hsh.2]; exact hcn.1⟩
  ·rw [xox]
   exact ⟨(xq4 _ _ _ office ho).1, (xtH _ _ (by omega)).1, (xwr _ _ _ (by omega)).1⟩
 refine ⟨⟨by omega, fun c hc => (eskip c hc).2⟩, ?_⟩
 unfold xar xfN
 congr 2
 have key : ∀ (l : List (List Int)) (gs : List (List Int)), (∀ c ∈ l, c ∈ list) → l.foldl (xlA office (ships.map rowO) ow t delay) gs = l.foldl (xle office (xa0 ships) t delay) gs := by
  intro l
  induction l with
  | nil => intro gs _; rfl
  | cons c r ih =>
   intro gs hl
   rw [List.foldl_cons, List.foldl_cons]
   have hcm := hl c List.mem_cons_self
   have hsl := xr4 hr c
   have e : xlA office (ships.map rowO) ow t delay gs c = xle office (xa0 ships) t delay gs c := by
    have eu : ∀ g, gUpd (ships.map rowO) c g = updF (xa0 ships) c g := fun g => by
     unfold gUpd updF offF
     rw [xox, (xtH _ _ (by omega)).2.1, (xwr _ _ _ (by omega)).2]
    unfold xlA xle
    rw [(eskip c hcm).1, (xq4 _ _ _ office ho).2]
    simp only [eu]
   rw [e]
   exact ih _ fun x hx => hl x (List.mem_cons_of_mem _ hx)
 exact key list [] fun c h => h
end Go.Proofs.YtikhnofbbcmpeaaGreat
