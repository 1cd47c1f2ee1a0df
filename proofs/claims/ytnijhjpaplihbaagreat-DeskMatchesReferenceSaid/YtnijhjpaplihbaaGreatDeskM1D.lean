/- Several texts in one (wip/xiS.py): XDeskM1D XDeskM2D XDeskM3D. -/
import Derived.Test.YtnijhjpaplihbaaGreatDesk4D
set_option maxRecDepth 100000
set_option linter.unusedVariables false
namespace Go.Proofs.YtnijhjpaplihbaaGreat
open Go Go.Sy
noncomputable def xca (v_X v_Y w_X w_Y : Int) : Int :=
 IntKind.i64.wrap (IntKind.i64.wrap (v_X * w_Y) - IntKind.i64.wrap (v_Y * w_X))
noncomputable def xfI (p_X p_Y : Int) : Bool :=
 decide (p_X ≥ (-1000000 : Int)) && decide (p_X ≤ (1000000 : Int)) && decide (p_Y ≥ (-1000000 : Int)) && decide (p_Y ≤ (1000000 : Int))
noncomputable def xf4 (s_Lo s_Hi : Int) : Bool :=
 decide (s_Lo ≥ (-1000000 : Int)) && decide (s_Lo ≤ s_Hi) && decide (s_Hi ≤ (1000000 : Int))
noncomputable def xaQ (b_X_Lo b_X_Hi b_Y_Lo b_Y_Hi : Int) : Bool :=
 xf4 b_X_Lo b_X_Hi && xf4 b_Y_Lo b_Y_Hi
noncomputable def xc8 (s_Lo s_Hi : Int) : Bool :=
 decide (s_Lo ≥ (-1000000000000 : Int)) && decide (s_Lo ≤ s_Hi) && decide (s_Hi ≤ (1000000000000 : Int))
noncomputable def xdR (s_Lo s_Hi t_Lo t_Hi : Int) : Bool :=
 xc8 s_Lo s_Hi && xc8 t_Lo t_Hi
noncomputable def xaV (a_X_Lo a_X_Hi a_Y_Lo a_Y_Hi b_X_Lo b_X_Hi b_Y_Lo b_Y_Hi : Int) : Bool :=
 xaQ a_X_Lo a_X_Hi a_Y_Lo a_Y_Hi && xaQ b_X_Lo b_X_Hi b_Y_Lo b_Y_Hi
noncomputable def xiO (n d : Int) : Int :=
 bif decide (n.tmod d < (0 : Int)) then IntKind.i64.wrap (IntKind.i64.wrap (n.tdiv d) - (1 : Int)) else IntKind.i64.wrap (n.tdiv d)
def xiB (n d : Int) : Prop :=
 (((d : Int) ≠ (0 : Int)) ∧ ((d : Int) ≠ (0 : Int)))
noncomputable def xla (n d : Int) : Int :=
 bif decide (n.tmod d > (0 : Int)) then IntKind.i64.wrap (IntKind.i64.wrap (n.tdiv d) + (1 : Int)) else IntKind.i64.wrap (n.tdiv d)
def xku (n d : Int) : Prop :=
 (((d : Int) ≠ (0 : Int)) ∧ ((d : Int) ≠ (0 : Int)))
noncomputable def xeB (p_X p_Y : Int) : Bool :=
 decide (p_X ≥ (-1000000 : Int)) && decide (p_X ≤ (1000000 : Int)) && decide (p_Y ≥ (-1000000 : Int)) && decide (p_Y ≤ (1000000 : Int))
noncomputable def xhD (s_Lo s_Hi t_Lo t_Hi : Int) : Int :=
 bif !xdR s_Lo s_Hi t_Lo t_Hi then (0 : Int) else bif decide (imax s_Lo t_Lo > imin s_Hi t_Hi) then (0 : Int) else imax s_Lo t_Lo
noncomputable def xhC (s_Lo s_Hi t_Lo t_Hi : Int) : Int :=
 bif !xdR s_Lo s_Hi t_Lo t_Hi then (0 : Int) else bif decide (imax s_Lo t_Lo > imin s_Hi t_Hi) then (0 : Int) else imin s_Hi t_Hi
noncomputable def xb2 (s_Lo s_Hi t_Lo t_Hi : Int) : Int :=
 bif !xdR s_Lo s_Hi t_Lo t_Hi then (1 : Int) else bif decide (imax s_Lo t_Lo > imin s_Hi t_Hi) then (4 : Int) else (0 : Int)
noncomputable def xiN (s_Lo s_Hi t_Lo t_Hi : Int) : Int :=
 bif !xdR s_Lo s_Hi t_Lo t_Hi then (0 : Int) else imin s_Lo t_Lo
noncomputable def xiM (s_Lo s_Hi t_Lo t_Hi : Int) : Int :=
 bif !xdR s_Lo s_Hi t_Lo t_Hi then (0 : Int) else imax s_Hi t_Hi
noncomputable def xre (s_Lo s_Hi t_Lo t_Hi : Int) : Int :=
 bif !xdR s_Lo s_Hi t_Lo t_Hi then (1 : Int) else (0 : Int)
noncomputable def xfo (a_X_Lo a_X_Hi a_Y_Lo a_Y_Hi b_X_Lo b_X_Hi b_Y_Lo b_Y_Hi : Int) : Int :=
 bif !xaV a_X_Lo a_X_Hi a_Y_Lo a_Y_Hi b_X_Lo b_X_Hi b_Y_Lo b_Y_Hi then (0 : Int)
else bif xb2 a_X_Lo a_X_Hi b_X_Lo b_X_Hi != (0 : Int) || xb2 a_Y_Lo a_Y_Hi b_Y_Lo b_Y_Hi != (0 : Int) then (0 : Int) else xhD a_X_Lo a_X_Hi b_X_Lo b_X_Hi
noncomputable def xgE (a_X_Lo a_X_Hi a_Y_Lo a_Y_Hi b_X_Lo b_X_Hi b_Y_Lo b_Y_Hi : Int) : Int :=
 bif !xaV a_X_Lo a_X_Hi a_Y_Lo a_Y_Hi b_X_Lo b_X_Hi b_Y_Lo b_Y_Hi then (0 : Int)
else bif xb2 a_X_Lo a_X_Hi b_X_Lo b_X_Hi != (0 : Int) || xb2 a_Y_Lo a_Y_Hi b_Y_Lo b_Y_Hi != (0 : Int) then (0 : Int) else xhC a_X_Lo a_X_Hi b_X_Lo b_X_Hi
noncomputable def xgD (a_X_Lo a_X_Hi a_Y_Lo a_Y_Hi b_X_Lo b_X_Hi b_Y_Lo b_Y_Hi : Int) : Int :=
 bif !xaV a_X_Lo a_X_Hi a_Y_Lo a_Y_Hi b_X_Lo b_X_Hi b_Y_Lo b_Y_Hi then (0 : Int)
else bif xb2 a_X_Lo a_X_Hi b_X_Lo b_X_Hi != (0 : Int) || xb2 a_Y_Lo a_Y_Hi b_Y_Lo b_Y_Hi != (0 : Int) then (0 : Int) else xhD a_Y_Lo a_Y_Hi b_Y_Lo b_Y_Hi
noncomputable def xgC (a_X_Lo a_X_Hi a_Y_Lo a_Y_Hi b_X_Lo b_X_Hi b_Y_Lo b_Y_Hi : Int) : Int :=
 bif !xaV a_X_Lo a_X_Hi a_Y_Lo a_Y_Hi b_X_Lo b_X_Hi b_Y_Lo b_Y_Hi then (0 : Int)
else bif xb2 a_X_Lo a_X_Hi b_X_Lo b_X_Hi != (0 : Int) || xb2 a_Y_Lo a_Y_Hi b_Y_Lo b_Y_Hi != (0 : Int) then (0 : Int) else xhC a_Y_Lo a_Y_Hi b_Y_Lo b_Y_Hi
noncomputable def xfn (a_X_Lo a_X_Hi a_Y_Lo a_Y_Hi b_X_Lo b_X_Hi b_Y_Lo b_Y_Hi : Int) : Int :=
 bif !xaV a_X_Lo a_X_Hi a_Y_Lo a_Y_Hi b_X_Lo b_X_Hi b_Y_Lo b_Y_Hi then (1 : Int)
else bif xb2 a_X_Lo a_X_Hi b_X_Lo b_X_Hi != (0 : Int) || xb2 a_Y_Lo a_Y_Hi b_Y_Lo b_Y_Hi != (0 : Int) then (4 : Int) else (0 : Int)
noncomputable def xgI (a_X_Lo a_X_Hi a_Y_Lo a_Y_Hi b_X_Lo b_X_Hi b_Y_Lo b_Y_Hi : Int) : Int :=
 bif !xaV a_X_Lo a_X_Hi a_Y_Lo a_Y_Hi b_X_Lo b_X_Hi b_Y_Lo b_Y_Hi then (0 : Int) else xiN a_X_Lo a_X_Hi b_X_Lo b_X_Hi
noncomputable def xgH (a_X_Lo a_X_Hi a_Y_Lo a_Y_Hi b_X_Lo b_X_Hi b_Y_Lo b_Y_Hi : Int) : Int :=
 bif !xaV a_X_Lo a_X_Hi a_Y_Lo a_Y_Hi b_X_Lo b_X_Hi b_Y_Lo b_Y_Hi then (0 : Int) else xiM a_X_Lo a_X_Hi b_X_Lo b_X_Hi
noncomputable def xgG (a_X_Lo a_X_Hi a_Y_Lo a_Y_Hi b_X_Lo b_X_Hi b_Y_Lo b_Y_Hi : Int) : Int :=
 bif !xaV a_X_Lo a_X_Hi a_Y_Lo a_Y_Hi b_X_Lo b_X_Hi b_Y_Lo b_Y_Hi then (0 : Int) else xiN a_Y_Lo a_Y_Hi b_Y_Lo b_Y_Hi
noncomputable def xgF (a_X_Lo a_X_Hi a_Y_Lo a_Y_Hi b_X_Lo b_X_Hi b_Y_Lo b_Y_Hi : Int) : Int :=
 bif !xaV a_X_Lo a_X_Hi a_Y_Lo a_Y_Hi b_X_Lo b_X_Hi b_Y_Lo b_Y_Hi then (0 : Int) else xiM a_Y_Lo a_Y_Hi b_Y_Lo b_Y_Hi
noncomputable def xmF (a_X_Lo a_X_Hi a_Y_Lo a_Y_Hi b_X_Lo b_X_Hi b_Y_Lo b_Y_Hi : Int) : Int :=
 bif !xaV a_X_Lo a_X_Hi a_Y_Lo a_Y_Hi b_X_Lo b_X_Hi b_Y_Lo b_Y_Hi then (1 : Int) else (0 : Int)
noncomputable def xjM (list : List (List Int)) : List U :=
 [.b (false), .i ((0 : Int))]
noncomputable def xea (list : List (List Int)) (y0 : List U) : Option (Nat × List U) :=
 (bif decide (gi y0 1 < (↑list.length : Int)) then xab (inR (gi y0 1) list) (xab (inR (gi y0 1) list) ((bif !xaQ ((list.getD (gi y0 1).toNat []).getD 0 (0 : Int)) ((list.getD (gi y0 1).toNat []).getD 1 (0 : Int))
  ((list.getD (gi y0 1).toNat []).getD 2 (0 : Int)) ((list.getD (gi y0 1).toNat []).getD 3 (0 : Int)) then some (1, []) else some (0, [.b (gb y0 0), .i (IntKind.i64.wrap (gi y0 1 + (1 : Int)))])))) else some (3, [.b (gb y0 0), .i (gi y0 1)]))
noncomputable def xkK (list : List (List Int)) : Nat × List U := xaC (xea list) (xjM list)
noncomputable def xbE (list : List (List Int)) : Bool :=
 bif decide ((↑list.length : Int) < (1 : Int)) || decide ((↑list.length : Int) > (16 : Int)) then false else bif (xkK list).fst.beq 1 then false else true
def xdi (list : List (List Int)) : Prop :=
 (((decide ((↑list.length : Int) < (1 : Int)) || decide ((↑list.length : Int) > (16 : Int))) = false) → ((xay (xea list) (xjM list))))
noncomputable def xhT (s_Lo s_Hi : Int) : Bool :=
 decide (s_Lo ≥ (-1000 : Int)) && decide (s_Lo ≤ s_Hi) && decide (s_Hi ≤ (1000 : Int))
noncomputable def xgi (list : List (List Int)) : List U :=
 [.b (false), .i ((0 : Int))]
noncomputable def xcW (list : List (List Int)) (y0 : List U) : Option (Nat × List U) :=
 (bif decide (gi y0 1 < (↑list.length : Int)) then xab (inR (gi y0 1) list) (xab (inR (gi y0 1) list) ((bif decide ((list.getD (gi y0 1).toNat []).getD 0 (0 : Int) < (0 : Int)) ||
    decide ((list.getD (gi y0 1).toNat []).getD 0 (0 : Int) ≥ (list.getD (gi y0 1).toNat []).getD 1 (0 : Int)) ||
   decide ((list.getD (gi y0 1).toNat []).getD 1 (0 : Int) > (10000000 : Int)) ||
  !xhT ((list.getD (gi y0 1).toNat []).getD 2 (0 : Int)) ((list.getD (gi y0 1).toNat []).getD 3 (0 : Int)) ||
 !xhT ((list.getD (gi y0 1).toNat []).getD 4 (0 : Int)) ((list.getD (gi y0 1).toNat []).getD 5 (0 : Int)) then some (1, []) else xab ((decide (gi y0 1 > (0 : Int)) = true) → (inR (IntKind.i64.wrap (gi y0 1 - (1 : Int))) list)) (xab ((decide (gi y0 1 > (0 : Int)) = true) → (inR (IntKind.i64.wrap (gi y0 1 - (1 : Int))) list)) (xab ((decide (gi y0 1 > (0 : Int)) = true) → (inR (IntKind.i64.wrap (gi y0 1 - (1 : Int))) list)) ((bif decide (gi y0 1 > (0 : Int)) &&
 decide ((list.getD (gi y0 1).toNat []).getD 0 (0 : Int) < (list.getD (IntKind.i64.wrap (gi y0 1 - (1 : Int))).toNat []).getD 1 (0 : Int)) then some (2, []) else some (0, [.b (gb y0 0), .i (IntKind.i64.wrap (gi y0 1 + (1 : Int)))])))))))) else some (4, [.b (gb y0 0), .i (gi y0 1)]))
noncomputable def xfm (list : List (List Int)) : Nat × List U := xaC (xcW list) (xgi list)
noncomputable def xa0 (list : List (List Int)) : Bool :=
 bif decide ((↑list.length : Int) > (60 : Int)) then false else bif (xfm list).fst.beq 1 then false else bif (xfm list).fst.beq 2 then false else true
def xcH (list : List (List Int)) : Prop :=
 ((decide ((↑list.length : Int) > (60 : Int)) = false) → ((xay (xcW list) (xgi list))))
noncomputable def xcG (from_ until_ : Int) : Bool :=
 decide (from_ ≥ (0 : Int)) && decide (from_ ≤ until_) && decide (until_ ≤ (10000000 : Int))
noncomputable def xrb (from_ until_ : Int) (forecast : List (List Int)) (y0 : List U) : Int :=
 gi y0 0 +
 imax (0 : Int)
  (IntKind.i64.wrap (imin ((forecast.getD (gi y0 1).toNat []).getD 1 (0 : Int)) until_ - imax ((forecast.getD (gi y0 1).toNat []).getD 0 (0 : Int)) from_))
noncomputable def xra (from_ until_ : Int) (forecast : List (List Int)) (y0 : List U) : Int :=
 imax (0 : Int)
  (IntKind.i64.wrap (imin ((forecast.getD (gi y0 1).toNat []).getD 1 (0 : Int)) until_ - imax ((forecast.getD (gi y0 1).toNat []).getD 0 (0 : Int)) from_)) *
 (forecast.getD (gi y0 1).toNat []).getD 4 (0 : Int)
noncomputable def xq9 (from_ until_ : Int) (forecast : List (List Int)) (y0 : List U) : Int :=
 imax (0 : Int)
  (IntKind.i64.wrap (imin ((forecast.getD (gi y0 1).toNat []).getD 1 (0 : Int)) until_ - imax ((forecast.getD (gi y0 1).toNat []).getD 0 (0 : Int)) from_)) *
 (forecast.getD (gi y0 1).toNat []).getD 5 (0 : Int)
noncomputable def xq8 (from_ until_ : Int) (forecast : List (List Int)) (y0 : List U) : Int :=
 imax (0 : Int)
  (IntKind.i64.wrap (imin ((forecast.getD (gi y0 1).toNat []).getD 1 (0 : Int)) until_ - imax ((forecast.getD (gi y0 1).toNat []).getD 0 (0 : Int)) from_)) *
 (forecast.getD (gi y0 1).toNat []).getD 2 (0 : Int)
noncomputable def xq7 (from_ until_ : Int) (forecast : List (List Int)) (y0 : List U) : Int :=
 imax (0 : Int)
  (IntKind.i64.wrap (imin ((forecast.getD (gi y0 1).toNat []).getD 1 (0 : Int)) until_ - imax ((forecast.getD (gi y0 1).toNat []).getD 0 (0 : Int)) from_)) *
 (forecast.getD (gi y0 1).toNat []).getD 3 (0 : Int)
noncomputable def xfj (from_ until_ : Int) (forecast : List (List Int)) : List U :=
 [.i ((0 : Int)), .i ((0 : Int)), .i ((0 : Int)), .i ((0 : Int)), .i ((0 : Int)), .i ((0 : Int))]
noncomputable def xd0 (from_ until_ : Int) (forecast : List (List Int)) (y0 : List U) : Option (Nat × List U) :=
 (bif decide (gi y0 1 < (↑forecast.length : Int)) then xab (inR (gi y0 1) forecast) (xab (inR (gi y0 1) forecast) (some (0, [.i (IntKind.i64.wrap ((xrb from_ until_ forecast y0))), .i (IntKind.i64.wrap (gi y0 1 + (1 : Int))), .i (IntKind.i64.wrap (gi y0 2 + IntKind.i64.wrap ((xra from_ until_ forecast y0)))), .i (IntKind.i64.wrap (gi y0 3 + IntKind.i64.wrap ((xq9 from_ until_ forecast y0)))), .i (IntKind.i64.wrap (gi y0 4 + IntKind.i64.wrap ((xq8 from_ until_ forecast y0)))), .i (IntKind.i64.wrap (gi y0 5 + IntKind.i64.wrap ((xq7 from_ until_ forecast y0))))]))) else some (2, [.i (gi y0 0), .i (gi y0 1), .i (gi y0 2), .i (gi y0 3), .i (gi y0 4), .i (gi y0 5)]))
noncomputable def xdj (from_ until_ : Int) (forecast : List (List Int)) : Nat × List U := xaC (xd0 from_ until_ forecast) (xfj from_ until_ forecast)
noncomputable def xq6 (from_ until_ : Int) (forecast : List (List Int)) : Int :=
 bif decide (gi (xdj from_ until_ forecast).snd 0 < IntKind.i64.wrap (until_ - from_)) then (0 : Int) else gi (xdj from_ until_ forecast).snd 4
noncomputable def xeZ (from_ until_ : Int) (forecast : List (List Int)) : Int :=
 bif !xa0 forecast || !xcG from_ until_ then (0 : Int) else (xq6 from_ until_ forecast)
noncomputable def xq5 (from_ until_ : Int) (forecast : List (List Int)) : Int :=
 bif decide (gi (xdj from_ until_ forecast).snd 0 < IntKind.i64.wrap (until_ - from_)) then (0 : Int) else gi (xdj from_ until_ forecast).snd 5
noncomputable def xeY (from_ until_ : Int) (forecast : List (List Int)) : Int :=
 bif !xa0 forecast || !xcG from_ until_ then (0 : Int) else (xq5 from_ until_ forecast)
noncomputable def xq4 (from_ until_ : Int) (forecast : List (List Int)) : Int :=
 bif decide (gi (xdj from_ until_ forecast).snd 0 < IntKind.i64.wrap (until_ - from_)) then (0 : Int) else gi (xdj from_ until_ forecast).snd 2
noncomputable def xeX (from_ until_ : Int) (forecast : List (List Int)) : Int :=
 bif !xa0 forecast || !xcG from_ until_ then (0 : Int) else (xq4 from_ until_ forecast)
noncomputable def xq3 (from_ until_ : Int) (forecast : List (List Int)) : Int :=
 bif decide (gi (xdj from_ until_ forecast).snd 0 < IntKind.i64.wrap (until_ - from_)) then (0 : Int) else gi (xdj from_ until_ forecast).snd 3
noncomputable def xeW (from_ until_ : Int) (forecast : List (List Int)) : Int :=
 bif !xa0 forecast || !xcG from_ until_ then (0 : Int) else (xq3 from_ until_ forecast)
noncomputable def xq2 (from_ until_ : Int) (forecast : List (List Int)) : Int :=
 bif !xa0 forecast || !xcG from_ until_ then (1 : Int) else bif decide (gi (xdj from_ until_ forecast).snd 0 < IntKind.i64.wrap (until_ - from_)) then (4 : Int) else (0 : Int)
noncomputable def xbU (from_ until_ : Int) (forecast : List (List Int)) : Int :=
 (xq2 from_ until_ forecast)
def xfH (from_ until_ : Int) (forecast : List (List Int)) : Prop :=
 ((xcH forecast) ∧ (((!xa0 forecast || !xcG from_ until_) = false) → ((xay (xd0 from_ until_ forecast) (xfj from_ until_ forecast)))))
noncomputable def xey (s_Lo s_Hi by__Lo by__Hi : Int) : Int :=
 xiO (IntKind.i64.wrap (IntKind.i64.wrap ((100 : Int) * s_Lo) + by__Lo)) (100 : Int)
noncomputable def xex (s_Lo s_Hi by__Lo by__Hi : Int) : Int :=
 xla (IntKind.i64.wrap (IntKind.i64.wrap ((100 : Int) * s_Hi) + by__Hi)) (100 : Int)
def xd9 (s_Lo s_Hi by__Lo by__Hi : Int) : Prop :=
 ((xiB (IntKind.i64.wrap (IntKind.i64.wrap ((100 : Int) * s_Lo) + by__Lo)) (100 : Int)) ∧ (xku (IntKind.i64.wrap (IntKind.i64.wrap ((100 : Int) * s_Hi) + by__Hi)) (100 : Int)))
noncomputable def xpl (from_ until_ : Int) (list forecast : List (List Int)) (y0 : List U) : List Int :=
 [xey ((list.getD (gi y0 1).toNat []).getD 2 (0 : Int)) ((list.getD (gi y0 1).toNat []).getD 3 (0 : Int)) (xeX from_ until_ forecast)
  (xeW from_ until_ forecast),
 xex ((list.getD (gi y0 1).toNat []).getD 2 (0 : Int)) ((list.getD (gi y0 1).toNat []).getD 3 (0 : Int)) (xeX from_ until_ forecast)
  (xeW from_ until_ forecast)]
noncomputable def xji (from_ until_ : Int) (list forecast : List (List Int)) (y0 : List U) : List Int :=
 xey ((list.getD (gi y0 1).toNat []).getD 0 (0 : Int)) ((list.getD (gi y0 1).toNat []).getD 1 (0 : Int)) (xeZ from_ until_ forecast)
  (xeY from_ until_ forecast) ::
 xex ((list.getD (gi y0 1).toNat []).getD 0 (0 : Int)) ((list.getD (gi y0 1).toNat []).getD 1 (0 : Int)) (xeZ from_ until_ forecast)
   (xeY from_ until_ forecast) ::
  (xpl from_ until_ list forecast y0)
noncomputable def xkq (from_ until_ : Int) (list forecast : List (List Int)) : List U :=
 [.i ((0 : Int)), .i ((0 : Int)), .r ([])]
noncomputable def xeA (from_ until_ : Int) (list forecast : List (List Int)) (y0 : List U) : Option (Nat × List U) :=
 (bif decide (gi y0 1 < (↑list.length : Int)) then xab (inR (gi y0 1) list) (xab (inR (gi y0 1) list) (xab (inR (gi y0 1) list) (xab (xd9 ((list.getD (gi y0 1).toNat []).getD 0 (0 : Int)) ((list.getD (gi y0 1).toNat []).getD 1 (0 : Int)) (xeZ from_ until_ forecast)
 (xeY from_ until_ forecast)) (xab (inR (gi y0 1) list) (xab (inR (gi y0 1) list) (xab (inR (gi y0 1) list) (xab (xd9 ((list.getD (gi y0 1).toNat []).getD 2 (0 : Int)) ((list.getD (gi y0 1).toNat []).getD 3 (0 : Int)) (xeX from_ until_ forecast)
 (xeW from_ until_ forecast)) ((bif !xaQ
  (xey ((list.getD (gi y0 1).toNat []).getD 0 (0 : Int)) ((list.getD (gi y0 1).toNat []).getD 1 (0 : Int)) (xeZ from_ until_ forecast)
   (xeY from_ until_ forecast))
  (xex ((list.getD (gi y0 1).toNat []).getD 0 (0 : Int)) ((list.getD (gi y0 1).toNat []).getD 1 (0 : Int)) (xeZ from_ until_ forecast)
   (xeY from_ until_ forecast))
  (xey ((list.getD (gi y0 1).toNat []).getD 2 (0 : Int)) ((list.getD (gi y0 1).toNat []).getD 3 (0 : Int)) (xeX from_ until_ forecast)
   (xeW from_ until_ forecast))
  (xex ((list.getD (gi y0 1).toNat []).getD 2 (0 : Int)) ((list.getD (gi y0 1).toNat []).getD 3 (0 : Int)) (xeX from_ until_ forecast)
   (xeW from_ until_ forecast)) then some (1, []) else xab (xcI 32 ((gr y0 2).length + [(xji from_ until_ list forecast y0)].length)) (some (0, [.i (gi y0 0), .i (IntKind.i64.wrap (gi y0 1 + (1 : Int))), .r (gr y0 2 ++ [(xji from_ until_ list forecast y0)])]))))))))))) else some (3, [.i (gi y0 0), .i (gi y0 1), .r (gr y0 2)]))
noncomputable def xhU (from_ until_ : Int) (list forecast : List (List Int)) : Nat × List U := xaC (xeA from_ until_ list forecast) (xkq from_ until_ list forecast)
noncomputable def xpk (from_ until_ : Int) (list forecast : List (List Int)) : List (List Int) :=
 bif !xbE list || xbU from_ until_ forecast == (1 : Int) then []
else bif xbU from_ until_ forecast != (0 : Int) then [] else bif (xhU from_ until_ list forecast).fst.beq 1 then [] else gr (xhU from_ until_ list forecast).snd 2
noncomputable def xfv (from_ until_ : Int) (list forecast : List (List Int)) : List (List Int) :=
 (xpk from_ until_ list forecast)
noncomputable def xhB (from_ until_ : Int) (list forecast : List (List Int)) : Int :=
 bif !xbE list || xbU from_ until_ forecast == (1 : Int) then (1 : Int)
else bif xbU from_ until_ forecast != (0 : Int) then xbU from_ until_ forecast else bif (xhU from_ until_ list forecast).fst.beq 1 then (3 : Int) else (0 : Int)
def xf3 (from_ until_ : Int) (list forecast : List (List Int)) : Prop :=
 ((xdi list) ∧ ((xfH from_ until_ forecast) ∧ (((!xbE list || xbU from_ until_ forecast == (1 : Int)) = false) → (((xbU from_ until_ forecast != (0 : Int)) = false) → ((xay (xeA from_ until_ list forecast) (xkq from_ until_ list forecast)))))))
noncomputable def xe0 (from_ until_ p_X p_Y q_X q_Y : Int) (forecast : List (List Int)) : Bool :=
 bif !xeB p_X p_Y || !xeB q_X q_Y || xbU from_ until_ forecast == (1 : Int) then false
else
 bif xbU from_ until_ forecast != (0 : Int) then false
 else
  xjP (xeZ from_ until_ forecast) (xeY from_ until_ forecast) (IntKind.i64.wrap ((100 : Int) * IntKind.i64.wrap (q_X - p_X))) &&
   xjP (xeX from_ until_ forecast) (xeW from_ until_ forecast) (IntKind.i64.wrap ((100 : Int) * IntKind.i64.wrap (q_Y - p_Y)))
noncomputable def xhi (from_ until_ p_X p_Y q_X q_Y : Int) (forecast : List (List Int)) : Int :=
 bif !xeB p_X p_Y || !xeB q_X q_Y || xbU from_ until_ forecast == (1 : Int) then (1 : Int)
else bif xbU from_ until_ forecast != (0 : Int) then xbU from_ until_ forecast else (0 : Int)
def xeo (from_ until_ p_X p_Y q_X q_Y : Int) (forecast : List (List Int)) : Prop :=
 (xfH from_ until_ forecast)
noncomputable def xrc (b_X_Lo b_X_Hi b_Y_Lo b_Y_Hi : Int) (list : List (List Int)) (y0 : List U) : Int :=
 xfn ((list.getD (gi y0 0).toNat []).getD 0 (0 : Int)) ((list.getD (gi y0 0).toNat []).getD 1 (0 : Int))
 ((list.getD (gi y0 0).toNat []).getD 2 (0 : Int)) ((list.getD (gi y0 0).toNat []).getD 3 (0 : Int)) b_X_Lo b_X_Hi b_Y_Lo b_Y_Hi
noncomputable def xmC (b_X_Lo b_X_Hi b_Y_Lo b_Y_Hi : Int) (list : List (List Int)) (y0 : List U) : Int :=
 xfo ((list.getD (gi y0 0).toNat []).getD 0 (0 : Int)) ((list.getD (gi y0 0).toNat []).getD 1 (0 : Int))
 ((list.getD (gi y0 0).toNat []).getD 2 (0 : Int)) ((list.getD (gi y0 0).toNat []).getD 3 (0 : Int)) b_X_Lo b_X_Hi b_Y_Lo b_Y_Hi
noncomputable def xmB (b_X_Lo b_X_Hi b_Y_Lo b_Y_Hi : Int) (list : List (List Int)) (y0 : List U) : Int :=
 xgE ((list.getD (gi y0 0).toNat []).getD 0 (0 : Int)) ((list.getD (gi y0 0).toNat []).getD 1 (0 : Int))
 ((list.getD (gi y0 0).toNat []).getD 2 (0 : Int)) ((list.getD (gi y0 0).toNat []).getD 3 (0 : Int)) b_X_Lo b_X_Hi b_Y_Lo b_Y_Hi
noncomputable def xmA (b_X_Lo b_X_Hi b_Y_Lo b_Y_Hi : Int) (list : List (List Int)) (y0 : List U) : Int :=
 xgD ((list.getD (gi y0 0).toNat []).getD 0 (0 : Int)) ((list.getD (gi y0 0).toNat []).getD 1 (0 : Int))
 ((list.getD (gi y0 0).toNat []).getD 2 (0 : Int)) ((list.getD (gi y0 0).toNat []).getD 3 (0 : Int)) b_X_Lo b_X_Hi b_Y_Lo b_Y_Hi
noncomputable def xmz (b_X_Lo b_X_Hi b_Y_Lo b_Y_Hi : Int) (list : List (List Int)) (y0 : List U) : Int :=
 xgC ((list.getD (gi y0 0).toNat []).getD 0 (0 : Int)) ((list.getD (gi y0 0).toNat []).getD 1 (0 : Int))
 ((list.getD (gi y0 0).toNat []).getD 2 (0 : Int)) ((list.getD (gi y0 0).toNat []).getD 3 (0 : Int)) b_X_Lo b_X_Hi b_Y_Lo b_Y_Hi
noncomputable def xk9 (b_X_Lo b_X_Hi b_Y_Lo b_Y_Hi : Int) (list : List (List Int)) : List U :=
 [.i ((0 : Int)), .r ([])]
noncomputable def xfl (b_X_Lo b_X_Hi b_Y_Lo b_Y_Hi : Int) (list : List (List Int)) (y0 : List U) : Option (Nat × List U) :=
 (bif decide (gi y0 0 < (↑list.length : Int)) then xab (inR (gi y0 0) list) (xab (inR (gi y0 0) list) ((bif (xrc b_X_Lo b_X_Hi b_Y_Lo b_Y_Hi list y0) == (0 : Int) then xab (xcI 32 ((gr y0 1).length + [[(xmC b_X_Lo b_X_Hi b_Y_Lo b_Y_Hi list y0), (xmB b_X_Lo b_X_Hi b_Y_Lo b_Y_Hi list y0), (xmA b_X_Lo b_X_Hi b_Y_Lo b_Y_Hi list y0), (xmz b_X_Lo b_X_Hi b_Y_Lo b_Y_Hi list y0)]].length)) (some (0, [.i (IntKind.i64.wrap (gi y0 0 + (1 : Int))), .r (gr y0 1 ++ [[(xmC b_X_Lo b_X_Hi b_Y_Lo b_Y_Hi list y0), (xmB b_X_Lo b_X_Hi b_Y_Lo b_Y_Hi list y0), (xmA b_X_Lo b_X_Hi b_Y_Lo b_Y_Hi list y0), (xmz b_X_Lo b_X_Hi b_Y_Lo b_Y_Hi list y0)]])])) else some (0, [.i (IntKind.i64.wrap (gi y0 0 + (1 : Int))), .r (gr y0 1)])))) else some (3, [.i (gi y0 0), .r (gr y0 1)]))
noncomputable def xkr (b_X_Lo b_X_Hi b_Y_Lo b_Y_Hi : Int) (list : List (List Int)) : Nat × List U := xaC (xfl b_X_Lo b_X_Hi b_Y_Lo b_Y_Hi list) (xk9 b_X_Lo b_X_Hi b_Y_Lo b_Y_Hi list)
noncomputable def xjO (b_X_Lo b_X_Hi b_Y_Lo b_Y_Hi : Int) (list : List (List Int)) : List (List Int) :=
 bif !xbE list || !xaQ b_X_Lo b_X_Hi b_Y_Lo b_Y_Hi then []
else bif (↑(gr (xkr b_X_Lo b_X_Hi b_Y_Lo b_Y_Hi list).snd 1).length : Int) == (0 : Int) then [] else gr (xkr b_X_Lo b_X_Hi b_Y_Lo b_Y_Hi list).snd 1
noncomputable def xjN (b_X_Lo b_X_Hi b_Y_Lo b_Y_Hi : Int) (list : List (List Int)) : Int :=
 bif !xbE list || !xaQ b_X_Lo b_X_Hi b_Y_Lo b_Y_Hi then (1 : Int) else bif (↑(gr (xkr b_X_Lo b_X_Hi b_Y_Lo b_Y_Hi list).snd 1).length : Int) == (0 : Int) then (4 : Int) else (0 : Int)
def xg1 (b_X_Lo b_X_Hi b_Y_Lo b_Y_Hi : Int) (list : List (List Int)) : Prop :=
 ((xdi list) ∧ (((!xbE list || !xaQ b_X_Lo b_X_Hi b_Y_Lo b_Y_Hi) = false) → ((xay (xfl b_X_Lo b_X_Hi b_Y_Lo b_Y_Hi list) (xk9 b_X_Lo b_X_Hi b_Y_Lo b_Y_Hi list)))))
noncomputable def xjx (n : Int) : Bool :=
 decide (n ≥ (1 : Int)) && decide (n ≤ (100000 : Int))
noncomputable def xfi (p_X p_Y : Int) : Bool :=
 decide (p_X ≥ (-1000000 : Int)) && decide (p_X ≤ (1000000 : Int)) && decide (p_Y ≥ (-1000000 : Int)) && decide (p_Y ≤ (1000000 : Int))
noncomputable def xbP (r_Ship r_Number r_Time r_Buoy r_At_X_Lo r_At_X_Hi r_At_Y_Lo r_At_Y_Hi r_From_X r_From_Y r_To_X r_To_Y r_Far : Int) : Bool :=
 bif
  !xjx r_Ship || !xjx r_Number || !xjx r_Buoy || !xaQ r_At_X_Lo r_At_X_Hi r_At_Y_Lo r_At_Y_Hi || !xfi r_From_X r_From_Y ||
       !xfi r_To_X r_To_Y ||
      decide (r_Time < (0 : Int)) ||
     decide (r_Time > (10000000 : Int)) ||
    decide (r_Far < (0 : Int)) ||
   decide (r_Far > (1000000 : Int)) then
 false
else decide (xca r_From_X r_From_Y r_To_X r_To_Y > (0 : Int))
noncomputable def xn0 (s_Lo s_Hi from_ to_ far : Int) : Int :=
 bif decide (from_ > (0 : Int)) || decide (to_ > (0 : Int)) then imax (IntKind.i64.wrap (s_Lo - far)) (-1000000 : Int) else imax (IntKind.i64.wrap (s_Lo - far)) (-1000000 : Int)
noncomputable def xnZ (s_Lo s_Hi from_ to_ far : Int) : Int :=
 bif decide (from_ < (0 : Int)) || decide (to_ < (0 : Int)) then (xn0 s_Lo s_Hi from_ to_ far) else bif decide (from_ > (0 : Int)) || decide (to_ > (0 : Int)) then s_Lo else s_Lo
noncomputable def xgZ (s_Lo s_Hi from_ to_ far : Int) : Int :=
 (xnZ s_Lo s_Hi from_ to_ far)
noncomputable def xnY (s_Lo s_Hi from_ to_ far : Int) : Int :=
 bif decide (from_ < (0 : Int)) || decide (to_ < (0 : Int)) then bif decide (from_ > (0 : Int)) || decide (to_ > (0 : Int)) then imin (IntKind.i64.wrap (s_Hi + far)) (1000000 : Int) else s_Hi
else bif decide (from_ > (0 : Int)) || decide (to_ > (0 : Int)) then imin (IntKind.i64.wrap (s_Hi + far)) (1000000 : Int) else s_Hi
noncomputable def xgY (s_Lo s_Hi from_ to_ far : Int) : Int :=
 (xnY s_Lo s_Hi from_ to_ far)
noncomputable def xiq (r_Ship r_Number r_Time r_Buoy r_At_X_Lo r_At_X_Hi r_At_Y_Lo r_At_Y_Hi r_From_X r_From_Y r_To_X r_To_Y r_Far : Int) : Int :=
 bif !xbP r_Ship r_Number r_Time r_Buoy r_At_X_Lo r_At_X_Hi r_At_Y_Lo r_At_Y_Hi r_From_X r_From_Y r_To_X r_To_Y r_Far then (0 : Int)
else xgZ r_At_X_Lo r_At_X_Hi r_From_X r_To_X r_Far
noncomputable def xip (r_Ship r_Number r_Time r_Buoy r_At_X_Lo r_At_X_Hi r_At_Y_Lo r_At_Y_Hi r_From_X r_From_Y r_To_X r_To_Y r_Far : Int) : Int :=
 bif !xbP r_Ship r_Number r_Time r_Buoy r_At_X_Lo r_At_X_Hi r_At_Y_Lo r_At_Y_Hi r_From_X r_From_Y r_To_X r_To_Y r_Far then (0 : Int)
else xgY r_At_X_Lo r_At_X_Hi r_From_X r_To_X r_Far
noncomputable def xio (r_Ship r_Number r_Time r_Buoy r_At_X_Lo r_At_X_Hi r_At_Y_Lo r_At_Y_Hi r_From_X r_From_Y r_To_X r_To_Y r_Far : Int) : Int :=
 bif !xbP r_Ship r_Number r_Time r_Buoy r_At_X_Lo r_At_X_Hi r_At_Y_Lo r_At_Y_Hi r_From_X r_From_Y r_To_X r_To_Y r_Far then (0 : Int)
else xgZ r_At_Y_Lo r_At_Y_Hi r_From_Y r_To_Y r_Far
noncomputable def xin (r_Ship r_Number r_Time r_Buoy r_At_X_Lo r_At_X_Hi r_At_Y_Lo r_At_Y_Hi r_From_X r_From_Y r_To_X r_To_Y r_Far : Int) : Int :=
 bif !xbP r_Ship r_Number r_Time r_Buoy r_At_X_Lo r_At_X_Hi r_At_Y_Lo r_At_Y_Hi r_From_X r_From_Y r_To_X r_To_Y r_Far then (0 : Int)
else xgY r_At_Y_Lo r_At_Y_Hi r_From_Y r_To_Y r_Far
noncomputable def xjL (r_Ship r_Number r_Time r_Buoy r_At_X_Lo r_At_X_Hi r_At_Y_Lo r_At_Y_Hi r_From_X r_From_Y r_To_X r_To_Y r_Far : Int) : Int :=
 bif !xbP r_Ship r_Number r_Time r_Buoy r_At_X_Lo r_At_X_Hi r_At_Y_Lo r_At_Y_Hi r_From_X r_From_Y r_To_X r_To_Y r_Far then (1 : Int) else (0 : Int)
noncomputable def xgB (from__X from__Y to__X to__Y b_X_Lo b_X_Hi b_Y_Lo b_Y_Hi : Int) : Bool :=
 bif decide (b_X_Lo > b_X_Hi) || decide (b_Y_Lo > b_Y_Hi) then false
else
 bif decide (b_X_Lo > (0 : Int)) && decide (from__X ≤ (0 : Int)) && decide (to__X ≤ (0 : Int)) || decide (b_X_Hi < (0 : Int)) && decide (from__X ≥ (0 : Int)) && decide (to__X ≥ (0 : Int)) then false
 else
  bif decide (b_Y_Lo > (0 : Int)) && decide (from__Y ≤ (0 : Int)) && decide (to__Y ≤ (0 : Int)) || decide (b_Y_Hi < (0 : Int)) && decide (from__Y ≥ (0 : Int)) && decide (to__Y ≥ (0 : Int)) then
   false
  else
   (decide (xca from__X from__Y b_X_Lo b_Y_Lo ≥ (0 : Int)) || decide (xca from__X from__Y b_X_Hi b_Y_Lo ≥ (0 : Int)) ||
      decide (xca from__X from__Y b_X_Hi b_Y_Hi ≥ (0 : Int)) ||
     decide (xca from__X from__Y b_X_Lo b_Y_Hi ≥ (0 : Int))) &&
    (decide (xca b_X_Lo b_Y_Lo to__X to__Y ≥ (0 : Int)) || decide (xca b_X_Hi b_Y_Lo to__X to__Y ≥ (0 : Int)) || decide (xca b_X_Hi b_Y_Hi to__X to__Y ≥ (0 : Int)) ||
     decide (xca b_X_Lo b_Y_Hi to__X to__Y ≥ (0 : Int)))
noncomputable def xiK (r_Ship r_Number r_Time r_Buoy r_At_X_Lo r_At_X_Hi r_At_Y_Lo r_At_Y_Hi r_From_X r_From_Y r_To_X r_To_Y r_Far b_X_Lo b_X_Hi b_Y_Lo b_Y_Hi : Int) : Bool :=
 xgB r_From_X r_From_Y r_To_X r_To_Y (imax (IntKind.i64.wrap (b_X_Lo - r_At_X_Hi)) (IntKind.i64.wrap ((0 : Int) - r_Far))) (imin (IntKind.i64.wrap (b_X_Hi - r_At_X_Lo)) r_Far)
 (imax (IntKind.i64.wrap (b_Y_Lo - r_At_Y_Hi)) (IntKind.i64.wrap ((0 : Int) - r_Far))) (imin (IntKind.i64.wrap (b_Y_Hi - r_At_Y_Lo)) r_Far)
noncomputable def xf2 (r_Ship r_Number r_Time r_Buoy r_At_X_Lo r_At_X_Hi r_At_Y_Lo r_At_Y_Hi r_From_X r_From_Y r_To_X r_To_Y r_Far p_X p_Y : Int) : Bool :=
 bif !xbP r_Ship r_Number r_Time r_Buoy r_At_X_Lo r_At_X_Hi r_At_Y_Lo r_At_Y_Hi r_From_X r_From_Y r_To_X r_To_Y r_Far || !xfI p_X p_Y then false
else xiK r_Ship r_Number r_Time r_Buoy r_At_X_Lo r_At_X_Hi r_At_Y_Lo r_At_Y_Hi r_From_X r_From_Y r_To_X r_To_Y r_Far p_X p_X p_Y p_Y
noncomputable def xn3 (r_Ship r_Number r_Time r_Buoy r_At_X_Lo r_At_X_Hi r_At_Y_Lo r_At_Y_Hi r_From_X r_From_Y r_To_X r_To_Y r_Far p_X p_Y : Int) : Int :=
 bif !xbP r_Ship r_Number r_Time r_Buoy r_At_X_Lo r_At_X_Hi r_At_Y_Lo r_At_Y_Hi r_From_X r_From_Y r_To_X r_To_Y r_Far || !xfI p_X p_Y then (1 : Int) else (0 : Int)
noncomputable def xiL (list : List (List Int)) : List U :=
 [.b (false), .i ((0 : Int))]
noncomputable def xdg (list : List (List Int)) (y0 : List U) : Option (Nat × List U) :=
 (bif decide (gi y0 1 < (↑list.length : Int)) then xab (inR (gi y0 1) list) (xab (inR (gi y0 1) list) ((bif !xbP ((list.getD (gi y0 1).toNat []).getD 0 (0 : Int)) ((list.getD (gi y0 1).toNat []).getD 1 (0 : Int))
  ((list.getD (gi y0 1).toNat []).getD 2 (0 : Int)) ((list.getD (gi y0 1).toNat []).getD 3 (0 : Int))
  ((list.getD (gi y0 1).toNat []).getD 4 (0 : Int)) ((list.getD (gi y0 1).toNat []).getD 5 (0 : Int))
  ((list.getD (gi y0 1).toNat []).getD 6 (0 : Int)) ((list.getD (gi y0 1).toNat []).getD 7 (0 : Int))
  ((list.getD (gi y0 1).toNat []).getD 8 (0 : Int)) ((list.getD (gi y0 1).toNat []).getD 9 (0 : Int))
  ((list.getD (gi y0 1).toNat []).getD 10 (0 : Int)) ((list.getD (gi y0 1).toNat []).getD 11 (0 : Int))
  ((list.getD (gi y0 1).toNat []).getD 12 (0 : Int)) then some (1, []) else some (0, [.b (gb y0 0), .i (IntKind.i64.wrap (gi y0 1 + (1 : Int)))])))) else some (3, [.b (gb y0 0), .i (gi y0 1)]))
noncomputable def xi6 (list : List (List Int)) : Nat × List U := xaC (xdg list) (xiL list)
noncomputable def xdh (list : List (List Int)) : Bool :=
 bif decide ((↑list.length : Int) > (60 : Int)) then false else bif (xi6 list).fst.beq 1 then false else true
def xdZ (list : List (List Int)) : Prop :=
 ((decide ((↑list.length : Int) > (60 : Int)) = false) → ((xay (xdg list) (xiL list))))
noncomputable def xfC (from_ : Int) (base forecast reports : List (List Int)) : List U :=
 [.i ((0 : Int)), .i (from_), .i ((0 : Int))]
noncomputable def xc1 (from_ : Int) (base forecast reports : List (List Int)) (y0 : List U) : Option (Nat × List U) :=
 (bif decide (gi y0 2 < (↑reports.length : Int)) then xab (inR (gi y0 2) reports) (xab (inR (gi y0 2) reports) (xab (inR (gi y0 2) reports) (xab ((decide ((reports.getD (gi y0 2).toNat []).getD 2 (0 : Int) < gi y0 1) = false) → (inR (gi y0 2) reports)) (xab ((decide ((reports.getD (gi y0 2).toNat []).getD 2 (0 : Int) < gi y0 1) = false) → (inR (gi y0 2) reports)) (xab ((decide ((reports.getD (gi y0 2).toNat []).getD 2 (0 : Int) < gi y0 1) = false) → (inR (gi y0 2) reports)) (xab ((decide ((reports.getD (gi y0 2).toNat []).getD 2 (0 : Int) < gi y0 1) = false) → (inR (0 : Int) reports)) (xab ((decide ((reports.getD (gi y0 2).toNat []).getD 2 (0 : Int) < gi y0 1) = false) → (inR (0 : Int) reports)) (xab ((decide ((reports.getD (gi y0 2).toNat []).getD 2 (0 : Int) < gi y0 1) = false) → (inR (0 : Int) reports)) ((bif decide ((reports.getD (gi y0 2).toNat []).getD 2 (0 : Int) < gi y0 1) ||
 (reports.getD (gi y0 2).toNat []).getD 3 (0 : Int) != (reports.getD (Int.toNat (0 : Int)) []).getD 3 (0 : Int) then some (1, []) else xab (inR (gi y0 2) reports) (xab (inR (gi y0 2) reports) (xab (inR (gi y0 2) reports) (some (0, [.i (gi y0 0), .i ((reports.getD (gi y0 2).toNat []).getD 2 (0 : Int)), .i (IntKind.i64.wrap (gi y0 2 + (1 : Int)))])))))))))))))) else some (3, [.i (gi y0 0), .i (gi y0 1), .i (gi y0 2)]))
noncomputable def xiz (from_ : Int) (base forecast reports : List (List Int)) : Nat × List U := xaC (xc1 from_ base forecast reports) (xfC from_ base forecast reports)
noncomputable def xhr (from_ : Int) (base forecast reports : List (List Int)) (y1 : List U) : List U :=
 [.i (gi y1 0), .i ((0 : Int))]
noncomputable def xbv (from_ : Int) (base forecast reports : List (List Int)) (y1 : List U) (y2 : List U) : Option (Nat × List U) :=
 (bif decide (gi y2 1 < gi y1 1) then xab (inR (gi y1 1) reports) (xab (inR (gi y1 1) reports) (xab (inR (gi y1 1) reports) (xab (inR (gi y2 1) reports) (xab (inR (gi y2 1) reports) (xab (inR (gi y2 1) reports) (xab ((((reports.getD (gi y1 1).toNat []).getD 0 (0 : Int) == (reports.getD (gi y2 1).toNat []).getD 0 (0 : Int)) = true) → (inR (gi y1 1) reports)) (xab ((((reports.getD (gi y1 1).toNat []).getD 0 (0 : Int) == (reports.getD (gi y2 1).toNat []).getD 0 (0 : Int)) = true) → (inR (gi y1 1) reports)) (xab ((((reports.getD (gi y1 1).toNat []).getD 0 (0 : Int) == (reports.getD (gi y2 1).toNat []).getD 0 (0 : Int)) = true) → (inR (gi y1 1) reports)) (xab ((((reports.getD (gi y1 1).toNat []).getD 0 (0 : Int) == (reports.getD (gi y2 1).toNat []).getD 0 (0 : Int)) = true) → (inR (gi y2 1) reports)) (xab ((((reports.getD (gi y1 1).toNat []).getD 0 (0 : Int) == (reports.getD (gi y2 1).toNat []).getD 0 (0 : Int)) = true) → (inR (gi y2 1) reports)) (xab ((((reports.getD (gi y1 1).toNat []).getD 0 (0 : Int) == (reports.getD (gi y2 1).toNat []).getD 0 (0 : Int)) = true) → (inR (gi y2 1) reports)) ((bif (reports.getD (gi y1 1).toNat []).getD 0 (0 : Int) == (reports.getD (gi y2 1).toNat []).getD 0 (0 : Int) &&
 (reports.getD (gi y1 1).toNat []).getD 1 (0 : Int) == (reports.getD (gi y2 1).toNat []).getD 1 (0 : Int) then some (1, []) else some (0, [.i (gi y2 0), .i (IntKind.i64.wrap (gi y2 1 + (1 : Int)))])))))))))))))) else some (3, [.i (gi y2 0), .i (gi y2 1)]))
noncomputable def xdO (from_ : Int) (base forecast reports : List (List Int)) (y1 : List U) : Nat × List U := xaC (xbv from_ base forecast reports y1) (xhr from_ base forecast reports y1)
noncomputable def xfB (from_ : Int) (base forecast reports : List (List Int)) : List U :=
 [.i (gi (xiz from_ base forecast reports).snd 0), .i ((0 : Int))]
noncomputable def xc0 (from_ : Int) (base forecast reports : List (List Int)) (y1 : List U) : Option (Nat × List U) :=
 (bif decide (gi y1 1 < (↑reports.length : Int)) then xab ((xay (xbv from_ base forecast reports y1) (xhr from_ base forecast reports y1))) ((bif (xdO from_ base forecast reports y1).fst.beq 1 then some (1, []) else some (0, [.i (gi (xdO from_ base forecast reports y1).snd 0), .i (IntKind.i64.wrap (gi y1 1 + (1 : Int)))]))) else some (3, [.i (gi y1 0), .i (gi y1 1)]))
noncomputable def xkI (from_ : Int) (base forecast reports : List (List Int)) : Nat × List U := xaC (xc0 from_ base forecast reports) (xfB from_ base forecast reports)
noncomputable def xnR (from_ : Int) (base forecast reports : List (List Int)) : Int :=
 bif !xbE base || !xa0 forecast || decide (from_ < (0 : Int)) || decide (from_ > (10000000 : Int)) || !xdh reports then (1 : Int)
else bif (xiz from_ base forecast reports).fst.beq 1 then (1 : Int) else bif (xkI from_ base forecast reports).fst.beq 1 then (5 : Int) else (0 : Int)
noncomputable def xaJ (from_ : Int) (base forecast reports : List (List Int)) : Int :=
 (xnR from_ base forecast reports)
def xdf (from_ : Int) (base forecast reports : List (List Int)) : Prop :=
 ((xdi base) ∧ ((((!xbE base) = false) → (xcH forecast)) ∧ ((((!xbE base || !xa0 forecast || decide (from_ < (0 : Int)) || decide (from_ > (10000000 : Int))) = false) → (xdZ reports)) ∧ (((!xbE base || !xa0 forecast || decide (from_ < (0 : Int)) || decide (from_ > (10000000 : Int)) || !xdh reports) = false) → (((xay (xc1 from_ base forecast reports) (xfC from_ base forecast reports))) ∧ (((xiz from_ base forecast reports).fst.beq 1 = false) → ((xay (xc0 from_ base forecast reports) (xfB from_ base forecast reports)))))))))
noncomputable def xhq (n : Int) (wrong : List (List Int)) : List U :=
 [.b (false), .i ((0 : Int))]
noncomputable def xd6 (n : Int) (wrong : List (List Int)) (y0 : List U) : Option (Nat × List U) :=
 (bif decide (gi y0 1 < (↑wrong.length : Int)) then xab (inR (gi y0 1) wrong) (xab (inR (gi y0 1) wrong) (xab ((decide ((wrong.getD (gi y0 1).toNat []).getD 0 (0 : Int) < (0 : Int)) = false) → (inR (gi y0 1) wrong)) (xab ((decide ((wrong.getD (gi y0 1).toNat []).getD 0 (0 : Int) < (0 : Int)) = false) → (inR (gi y0 1) wrong)) (xab (((decide ((wrong.getD (gi y0 1).toNat []).getD 0 (0 : Int) < (0 : Int)) || decide ((wrong.getD (gi y0 1).toNat []).getD 0 (0 : Int) ≥ n)) = false) → ((decide (gi y0 1 > (0 : Int)) = true) → (inR (gi y0 1) wrong))) (xab (((decide ((wrong.getD (gi y0 1).toNat []).getD 0 (0 : Int) < (0 : Int)) || decide ((wrong.getD (gi y0 1).toNat []).getD 0 (0 : Int) ≥ n)) = false) → ((decide (gi y0 1 > (0 : Int)) = true) → (inR (gi y0 1) wrong))) (xab (((decide ((wrong.getD (gi y0 1).toNat []).getD 0 (0 : Int) < (0 : Int)) || decide ((wrong.getD (gi y0 1).toNat []).getD 0 (0 : Int) ≥ n)) = false) → ((decide (gi y0 1 > (0 : Int)) = true) → (inR (IntKind.i64.wrap (gi y0 1 - (1 : Int))) wrong))) (xab (((decide ((wrong.getD (gi y0 1).toNat []).getD 0 (0 : Int) < (0 : Int)) || decide ((wrong.getD (gi y0 1).toNat []).getD 0 (0 : Int) ≥ n)) = false) → ((decide (gi y0 1 > (0 : Int)) = true) → (inR (IntKind.i64.wrap (gi y0 1 - (1 : Int))) wrong))) ((bif decide ((wrong.getD (gi y0 1).toNat []).getD 0 (0 : Int) < (0 : Int)) || decide ((wrong.getD (gi y0 1).toNat []).getD 0 (0 : Int) ≥ n) ||
 decide (gi y0 1 > (0 : Int)) &&
  decide ((wrong.getD (gi y0 1).toNat []).getD 0 (0 : Int) ≤ (wrong.getD (IntKind.i64.wrap (gi y0 1 - (1 : Int))).toNat []).getD 0 (0 : Int)) then some (1, []) else some (0, [.b (gb y0 0), .i (IntKind.i64.wrap (gi y0 1 + (1 : Int)))])))))))))) else some (3, [.b (gb y0 0), .i (gi y0 1)]))
noncomputable def xnK (n : Int) (wrong : List (List Int)) : Nat × List U := xaC (xd6 n wrong) (xhq n wrong)
noncomputable def xc6 (n : Int) (wrong : List (List Int)) : Bool :=
 bif (xnK n wrong).fst.beq 1 then false else true
def xd5 (n : Int) (wrong : List (List Int)) : Prop :=
 ((xay (xd6 n wrong) (xhq n wrong)))
noncomputable def xk5 (n : Int) (list : List (List Int)) : List U :=
 [.b (false), .i ((0 : Int))]
noncomputable def xff (n : Int) (list : List (List Int)) (y0 : List U) : Option (Nat × List U) :=
 (bif decide (gi y0 1 < (↑list.length : Int)) then xab (inR (gi y0 1) list) (xab (inR (gi y0 1) list) ((bif (list.getD (gi y0 1).toNat []).getD 0 (0 : Int) == n then some (1, []) else some (0, [.b (gb y0 0), .i (IntKind.i64.wrap (gi y0 1 + (1 : Int)))])))) else some (3, [.b (gb y0 0), .i (gi y0 1)]))
noncomputable def xmp (n : Int) (list : List (List Int)) : Nat × List U := xaC (xff n list) (xk5 n list)
noncomputable def xhs (n : Int) (list : List (List Int)) : Bool :=
 bif (xmp n list).fst.beq 1 then true else false
def xfF (n : Int) (list : List (List Int)) : Prop :=
 ((xay (xff n list) (xk5 n list)))
noncomputable def xhR (from_ : Int) (base forecast reports wrong : List (List Int)) (y0 : List U) : Int :=
 xiq ((reports.getD (gi y0 2).toNat []).getD 0 (0 : Int)) ((reports.getD (gi y0 2).toNat []).getD 1 (0 : Int))
 ((reports.getD (gi y0 2).toNat []).getD 2 (0 : Int)) ((reports.getD (gi y0 2).toNat []).getD 3 (0 : Int))
 ((reports.getD (gi y0 2).toNat []).getD 4 (0 : Int)) ((reports.getD (gi y0 2).toNat []).getD 5 (0 : Int))
 ((reports.getD (gi y0 2).toNat []).getD 6 (0 : Int)) ((reports.getD (gi y0 2).toNat []).getD 7 (0 : Int))
 ((reports.getD (gi y0 2).toNat []).getD 8 (0 : Int)) ((reports.getD (gi y0 2).toNat []).getD 9 (0 : Int))
 ((reports.getD (gi y0 2).toNat []).getD 10 (0 : Int)) ((reports.getD (gi y0 2).toNat []).getD 11 (0 : Int))
 ((reports.getD (gi y0 2).toNat []).getD 12 (0 : Int))
noncomputable def xhQ (from_ : Int) (base forecast reports wrong : List (List Int)) (y0 : List U) : Int :=
 xip ((reports.getD (gi y0 2).toNat []).getD 0 (0 : Int)) ((reports.getD (gi y0 2).toNat []).getD 1 (0 : Int))
 ((reports.getD (gi y0 2).toNat []).getD 2 (0 : Int)) ((reports.getD (gi y0 2).toNat []).getD 3 (0 : Int))
 ((reports.getD (gi y0 2).toNat []).getD 4 (0 : Int)) ((reports.getD (gi y0 2).toNat []).getD 5 (0 : Int))
 ((reports.getD (gi y0 2).toNat []).getD 6 (0 : Int)) ((reports.getD (gi y0 2).toNat []).getD 7 (0 : Int))
 ((reports.getD (gi y0 2).toNat []).getD 8 (0 : Int)) ((reports.getD (gi y0 2).toNat []).getD 9 (0 : Int))
 ((reports.getD (gi y0 2).toNat []).getD 10 (0 : Int)) ((reports.getD (gi y0 2).toNat []).getD 11 (0 : Int))
 ((reports.getD (gi y0 2).toNat []).getD 12 (0 : Int))
noncomputable def xhP (from_ : Int) (base forecast reports wrong : List (List Int)) (y0 : List U) : Int :=
 xio ((reports.getD (gi y0 2).toNat []).getD 0 (0 : Int)) ((reports.getD (gi y0 2).toNat []).getD 1 (0 : Int))
 ((reports.getD (gi y0 2).toNat []).getD 2 (0 : Int)) ((reports.getD (gi y0 2).toNat []).getD 3 (0 : Int))
 ((reports.getD (gi y0 2).toNat []).getD 4 (0 : Int)) ((reports.getD (gi y0 2).toNat []).getD 5 (0 : Int))
 ((reports.getD (gi y0 2).toNat []).getD 6 (0 : Int)) ((reports.getD (gi y0 2).toNat []).getD 7 (0 : Int))
 ((reports.getD (gi y0 2).toNat []).getD 8 (0 : Int)) ((reports.getD (gi y0 2).toNat []).getD 9 (0 : Int))
 ((reports.getD (gi y0 2).toNat []).getD 10 (0 : Int)) ((reports.getD (gi y0 2).toNat []).getD 11 (0 : Int))
 ((reports.getD (gi y0 2).toNat []).getD 12 (0 : Int))
noncomputable def xhO (from_ : Int) (base forecast reports wrong : List (List Int)) (y0 : List U) : Int :=
 xin ((reports.getD (gi y0 2).toNat []).getD 0 (0 : Int)) ((reports.getD (gi y0 2).toNat []).getD 1 (0 : Int))
 ((reports.getD (gi y0 2).toNat []).getD 2 (0 : Int)) ((reports.getD (gi y0 2).toNat []).getD 3 (0 : Int))
 ((reports.getD (gi y0 2).toNat []).getD 4 (0 : Int)) ((reports.getD (gi y0 2).toNat []).getD 5 (0 : Int))
 ((reports.getD (gi y0 2).toNat []).getD 6 (0 : Int)) ((reports.getD (gi y0 2).toNat []).getD 7 (0 : Int))
 ((reports.getD (gi y0 2).toNat []).getD 8 (0 : Int)) ((reports.getD (gi y0 2).toNat []).getD 9 (0 : Int))
 ((reports.getD (gi y0 2).toNat []).getD 10 (0 : Int)) ((reports.getD (gi y0 2).toNat []).getD 11 (0 : Int))
 ((reports.getD (gi y0 2).toNat []).getD 12 (0 : Int))
noncomputable def xhS (from_ : Int) (base forecast reports wrong : List (List Int)) : List U :=
 [.i ((0 : Int)), .i (from_), .i ((0 : Int)), .r ([] ++ base)]
noncomputable def xet (from_ : Int) (base forecast reports wrong : List (List Int)) (y0 : List U) : Option (Nat × List U) :=
 (bif decide (gi y0 2 < (↑reports.length : Int)) then xab (inR (gi y0 2) reports) (xab (inR (gi y0 2) reports) (xab (inR (gi y0 2) reports) (xab (xf3 (gi y0 1) ((reports.getD (gi y0 2).toNat []).getD 2 (0 : Int)) (gr y0 3) forecast) ((bif xhB (gi y0 1) ((reports.getD (gi y0 2).toNat []).getD 2 (0 : Int)) (gr y0 3) forecast != (0 : Int) then some (1, [.i (xhB (gi y0 1) ((reports.getD (gi y0 2).toNat []).getD 2 (0 : Int)) (gr y0 3) forecast)]) else xab (inR (gi y0 2) reports) (xab (inR (gi y0 2) reports) (xab (inR (gi y0 2) reports) (xab (xfF (gi y0 2) wrong) ((bif !xhs (gi y0 2) wrong then xab (inR (gi y0 2) reports) (xab (inR (gi y0 2) reports) (xab (xg1 ((xhR from_ base forecast reports wrong y0)) ((xhQ from_ base forecast reports wrong y0)) ((xhP from_ base forecast reports wrong y0)) ((xhO from_ base forecast reports wrong y0))
 (xfv (gi y0 1) ((reports.getD (gi y0 2).toNat []).getD 2 (0 : Int)) (gr y0 3) forecast)) ((bif xjN ((xhR from_ base forecast reports wrong y0)) ((xhQ from_ base forecast reports wrong y0)) ((xhP from_ base forecast reports wrong y0)) ((xhO from_ base forecast reports wrong y0))
  (xfv (gi y0 1) ((reports.getD (gi y0 2).toNat []).getD 2 (0 : Int)) (gr y0 3) forecast) !=
 (0 : Int) then some (2, []) else some (0, [.i (gi y0 0), .i ((reports.getD (gi y0 2).toNat []).getD 2 (0 : Int)), .i (IntKind.i64.wrap (gi y0 2 + (1 : Int))), .r (xjO ((xhR from_ base forecast reports wrong y0)) ((xhQ from_ base forecast reports wrong y0)) ((xhP from_ base forecast reports wrong y0)) ((xhO from_ base forecast reports wrong y0))
 (xfv (gi y0 1) ((reports.getD (gi y0 2).toNat []).getD 2 (0 : Int)) (gr y0 3) forecast))]))))) else some (0, [.i (gi y0 0), .i ((reports.getD (gi y0 2).toNat []).getD 2 (0 : Int)), .i (IntKind.i64.wrap (gi y0 2 + (1 : Int))), .r (xfv (gi y0 1) ((reports.getD (gi y0 2).toNat []).getD 2 (0 : Int)) (gr y0 3) forecast)]))))))))))) else some (5, [.i (gi y0 0), .i (gi y0 1), .i (gi y0 2), .r (gr y0 3)]))
noncomputable def xcF (from_ : Int) (base forecast reports wrong : List (List Int)) : Nat × List U := xaC (xet from_ base forecast reports wrong) (xhS from_ base forecast reports wrong)
noncomputable def xcg (from_ : Int) (base forecast reports wrong : List (List Int)) : List (List Int) :=
 bif (xcF from_ base forecast reports wrong).fst.beq 1 then [] else bif (xcF from_ base forecast reports wrong).fst.beq 2 then [] else gr (xcF from_ base forecast reports wrong).snd 3
noncomputable def xbB (from_ : Int) (base forecast reports wrong : List (List Int)) : Int :=
 bif (xcF from_ base forecast reports wrong).fst.beq 1 then gi (xcF from_ base forecast reports wrong).snd 0 else bif (xcF from_ base forecast reports wrong).fst.beq 2 then (18 : Int) else (0 : Int)
def xco (from_ : Int) (base forecast reports wrong : List (List Int)) : Prop :=
 ((xcI 32 (0 + base.length)) ∧ ((xay (xet from_ base forecast reports wrong) (xhS from_ base forecast reports wrong))))
noncomputable def xcp (from_ : Int) (base forecast reports wrong : List (List Int)) : List (List Int) :=
 bif xaJ from_ base forecast reports == (1 : Int) || !xc6 (↑reports.length : Int) wrong then []
else bif xaJ from_ base forecast reports != (0 : Int) then [] else xcg from_ base forecast reports wrong
noncomputable def xc7 (from_ : Int) (base forecast reports wrong : List (List Int)) : Int :=
 bif xaJ from_ base forecast reports == (1 : Int) || !xc6 (↑reports.length : Int) wrong then (1 : Int)
else bif xaJ from_ base forecast reports != (0 : Int) then xaJ from_ base forecast reports else xbB from_ base forecast reports wrong
def xen (from_ : Int) (base forecast reports wrong : List (List Int)) : Prop :=
 ((xdf from_ base forecast reports) ∧ ((((xaJ from_ base forecast reports == (1 : Int)) = false) → (xd5 (↑reports.length : Int) wrong)) ∧ (((xaJ from_ base forecast reports == (1 : Int) || !xc6 (↑reports.length : Int) wrong) = false) → (((xaJ from_ base forecast reports != (0 : Int)) = false) → (xco from_ base forecast reports wrong)))))
noncomputable def xnW (from_ most : Int) (base forecast reports : List (List Int)) : Int :=
 bif xaJ from_ base forecast reports == (1 : Int) || decide (most < (0 : Int)) || decide (most > (3 : Int)) then (1 : Int)
else bif xaJ from_ base forecast reports == (0 : Int) && decide ((↑reports.length : Int) > (12 : Int)) then (2 : Int) else xaJ from_ base forecast reports
noncomputable def xbj (from_ most : Int) (base forecast reports : List (List Int)) : Int :=
 (xnW from_ most base forecast reports)
def xfh (from_ most : Int) (base forecast reports : List (List Int)) : Prop :=
 (xdf from_ base forecast reports)
noncomputable def xpg (set : List (List Int)) (y0 : List U) : Int :=
 xgI (gi y0 1) (gi y0 2) (gi y0 3) (gi y0 4) ((set.getD (gi y0 0).toNat []).getD 0 (0 : Int))
 ((set.getD (gi y0 0).toNat []).getD 1 (0 : Int)) ((set.getD (gi y0 0).toNat []).getD 2 (0 : Int)) ((set.getD (gi y0 0).toNat []).getD 3 (0 : Int))
noncomputable def xpf (set : List (List Int)) (y0 : List U) : Int :=
 xgH (gi y0 1) (gi y0 2) (gi y0 3) (gi y0 4) ((set.getD (gi y0 0).toNat []).getD 0 (0 : Int))
 ((set.getD (gi y0 0).toNat []).getD 1 (0 : Int)) ((set.getD (gi y0 0).toNat []).getD 2 (0 : Int)) ((set.getD (gi y0 0).toNat []).getD 3 (0 : Int))
noncomputable def xpe (set : List (List Int)) (y0 : List U) : Int :=
 xgG (gi y0 1) (gi y0 2) (gi y0 3) (gi y0 4) ((set.getD (gi y0 0).toNat []).getD 0 (0 : Int))
 ((set.getD (gi y0 0).toNat []).getD 1 (0 : Int)) ((set.getD (gi y0 0).toNat []).getD 2 (0 : Int)) ((set.getD (gi y0 0).toNat []).getD 3 (0 : Int))
noncomputable def xpd (set : List (List Int)) (y0 : List U) : Int :=
 xgF (gi y0 1) (gi y0 2) (gi y0 3) (gi y0 4) ((set.getD (gi y0 0).toNat []).getD 0 (0 : Int))
 ((set.getD (gi y0 0).toNat []).getD 1 (0 : Int)) ((set.getD (gi y0 0).toNat []).getD 2 (0 : Int)) ((set.getD (gi y0 0).toNat []).getD 3 (0 : Int))
noncomputable def xeu (set : List (List Int)) : List U :=
 [.i ((1 : Int)), .i ((set.getD (Int.toNat (0 : Int)) []).getD 0 (0 : Int)), .i ((set.getD (Int.toNat (0 : Int)) []).getD 1 (0 : Int)), .i ((set.getD (Int.toNat (0 : Int)) []).getD 2 (0 : Int)), .i ((set.getD (Int.toNat (0 : Int)) []).getD 3 (0 : Int))]
noncomputable def xdo (set : List (List Int)) (y0 : List U) : Option (Nat × List U) :=
 (bif decide (gi y0 0 < (↑set.length : Int)) then xab (inR (gi y0 0) set) (xab (inR (gi y0 0) set) (some (0, [.i (IntKind.i64.wrap (gi y0 0 + (1 : Int))), .i ((xpg set y0)), .i ((xpf set y0)), .i ((xpe set y0)), .i ((xpd set y0))]))) else some (2, [.i (gi y0 0), .i (gi y0 1), .i (gi y0 2), .i (gi y0 3), .i (gi y0 4)]))
noncomputable def xgX (set : List (List Int)) : Nat × List U := xaC (xdo set) (xeu set)
noncomputable def xhA (set : List (List Int)) : Int :=
 gi (xgX set).snd 1
noncomputable def xhz (set : List (List Int)) : Int :=
 gi (xgX set).snd 2
noncomputable def xhy (set : List (List Int)) : Int :=
 gi (xgX set).snd 3
noncomputable def xhx (set : List (List Int)) : Int :=
 gi (xgX set).snd 4
def xeV (set : List (List Int)) : Prop :=
 ((inR (0 : Int) set) ∧ ((inR (0 : Int) set) ∧ ((xay (xdo set) (xeu set)))))
noncomputable def xfG (from_ : Int) (base forecast reports wrong track : List (List Int)) : List U :=
 [.b (false), .i ((0 : Int)), .i ((0 : Int))]
noncomputable def xcf (from_ : Int) (base forecast reports wrong track : List (List Int)) (y0 : List U) : Option (Nat × List U) :=
 (bif decide (gi y0 2 < (↑track.length : Int)) then xab (inR (gi y0 2) track) (xab (inR (gi y0 2) track) ((bif !xfI ((track.getD (gi y0 2).toNat []).getD 0 (0 : Int)) ((track.getD (gi y0 2).toNat []).getD 1 (0 : Int)) then some (1, []) else some (0, [.b (gb y0 0), .i (gi y0 1), .i (IntKind.i64.wrap (gi y0 2 + (1 : Int)))])))) else some (3, [.b (gb y0 0), .i (gi y0 1), .i (gi y0 2)]))
noncomputable def xb6 (from_ : Int) (base forecast reports wrong track : List (List Int)) : Nat × List U := xaC (xcf from_ base forecast reports wrong track) (xfG from_ base forecast reports wrong track)
noncomputable def xiA (from_ : Int) (base forecast reports wrong track : List (List Int)) (y1 : List U) : Int :=
 xhi (gi y1 2) ((reports.getD (gi y1 4).toNat []).getD 2 (0 : Int)) ((track.getD (gi y1 4).toNat []).getD 0 (0 : Int))
 ((track.getD (gi y1 4).toNat []).getD 1 (0 : Int)) ((track.getD (IntKind.i64.wrap (gi y1 4 + (1 : Int))).toNat []).getD 0 (0 : Int))
 ((track.getD (IntKind.i64.wrap (gi y1 4 + (1 : Int))).toNat []).getD 1 (0 : Int)) forecast
noncomputable def xd8 (from_ : Int) (base forecast reports wrong track : List (List Int)) : List U :=
 [.b (gb (xb6 from_ base forecast reports wrong track).snd 0), .i (gi (xb6 from_ base forecast reports wrong track).snd 1), .i (from_), .b (xeb ((track.getD (Int.toNat (0 : Int)) []).getD 0 (0 : Int)) ((track.getD (Int.toNat (0 : Int)) []).getD 1 (0 : Int)) base), .i ((0 : Int))]
noncomputable def xce (from_ : Int) (base forecast reports wrong track : List (List Int)) (y1 : List U) : Option (Nat × List U) :=
 (bif decide (gi y1 4 < (↑reports.length : Int)) then xab (inR (gi y1 4) reports) (xab (inR (gi y1 4) reports) (xab (inR (gi y1 4) reports) (xab (inR (gi y1 4) track) (xab (inR (gi y1 4) track) (xab (inR (IntKind.i64.wrap (gi y1 4 + (1 : Int))) track) (xab (inR (IntKind.i64.wrap (gi y1 4 + (1 : Int))) track) (xab (xeo (gi y1 2) ((reports.getD (gi y1 4).toNat []).getD 2 (0 : Int)) ((track.getD (gi y1 4).toNat []).getD 0 (0 : Int))
 ((track.getD (gi y1 4).toNat []).getD 1 (0 : Int)) ((track.getD (IntKind.i64.wrap (gi y1 4 + (1 : Int))).toNat []).getD 0 (0 : Int))
 ((track.getD (IntKind.i64.wrap (gi y1 4 + (1 : Int))).toNat []).getD 1 (0 : Int)) forecast) ((bif (xiA from_ base forecast reports wrong track y1) != (0 : Int) then some (1, [.i ((xiA from_ base forecast reports wrong track y1))]) else xab (inR (gi y1 4) reports) (xab (inR (gi y1 4) reports) (xab (inR (gi y1 4) reports) (xab (inR (gi y1 4) reports) (xab (inR (gi y1 4) reports) (xab (inR (IntKind.i64.wrap (gi y1 4 + (1 : Int))) track) (xab (inR (IntKind.i64.wrap (gi y1 4 + (1 : Int))) track) (xab (((gb y1 3 &&
  xe0 (gi y1 2) ((reports.getD (gi y1 4).toNat []).getD 2 (0 : Int)) ((track.getD (gi y1 4).toNat []).getD 0 (0 : Int))
   ((track.getD (gi y1 4).toNat []).getD 1 (0 : Int)) ((track.getD (IntKind.i64.wrap (gi y1 4 + (1 : Int))).toNat []).getD 0 (0 : Int))
   ((track.getD (IntKind.i64.wrap (gi y1 4 + (1 : Int))).toNat []).getD 1 (0 : Int)) forecast) =
 true) → ((xf2 ((reports.getD (gi y1 4).toNat []).getD 0 (0 : Int)) ((reports.getD (gi y1 4).toNat []).getD 1 (0 : Int))
  ((reports.getD (gi y1 4).toNat []).getD 2 (0 : Int)) ((reports.getD (gi y1 4).toNat []).getD 3 (0 : Int))
  ((reports.getD (gi y1 4).toNat []).getD 4 (0 : Int)) ((reports.getD (gi y1 4).toNat []).getD 5 (0 : Int))
  ((reports.getD (gi y1 4).toNat []).getD 6 (0 : Int)) ((reports.getD (gi y1 4).toNat []).getD 7 (0 : Int))
  ((reports.getD (gi y1 4).toNat []).getD 8 (0 : Int)) ((reports.getD (gi y1 4).toNat []).getD 9 (0 : Int))
  ((reports.getD (gi y1 4).toNat []).getD 10 (0 : Int)) ((reports.getD (gi y1 4).toNat []).getD 11 (0 : Int))
  ((reports.getD (gi y1 4).toNat []).getD 12 (0 : Int)) ((track.getD (IntKind.i64.wrap (gi y1 4 + (1 : Int))).toNat []).getD 0 (0 : Int))
  ((track.getD (IntKind.i64.wrap (gi y1 4 + (1 : Int))).toNat []).getD 1 (0 : Int)) =
 false) → (xfF (gi y1 4) wrong))) (some (0, [.b (gb y1 0), .i (gi y1 1), .i ((reports.getD (gi y1 4).toNat []).getD 2 (0 : Int)), .b (gb y1 3 &&
  xe0 (gi y1 2) ((reports.getD (gi y1 4).toNat []).getD 2 (0 : Int)) ((track.getD (gi y1 4).toNat []).getD 0 (0 : Int))
   ((track.getD (gi y1 4).toNat []).getD 1 (0 : Int)) ((track.getD (IntKind.i64.wrap (gi y1 4 + (1 : Int))).toNat []).getD 0 (0 : Int))
   ((track.getD (IntKind.i64.wrap (gi y1 4 + (1 : Int))).toNat []).getD 1 (0 : Int)) forecast &&
 (xf2 ((reports.getD (gi y1 4).toNat []).getD 0 (0 : Int)) ((reports.getD (gi y1 4).toNat []).getD 1 (0 : Int))
   ((reports.getD (gi y1 4).toNat []).getD 2 (0 : Int)) ((reports.getD (gi y1 4).toNat []).getD 3 (0 : Int))
   ((reports.getD (gi y1 4).toNat []).getD 4 (0 : Int)) ((reports.getD (gi y1 4).toNat []).getD 5 (0 : Int))
   ((reports.getD (gi y1 4).toNat []).getD 6 (0 : Int)) ((reports.getD (gi y1 4).toNat []).getD 7 (0 : Int))
   ((reports.getD (gi y1 4).toNat []).getD 8 (0 : Int)) ((reports.getD (gi y1 4).toNat []).getD 9 (0 : Int))
   ((reports.getD (gi y1 4).toNat []).getD 10 (0 : Int)) ((reports.getD (gi y1 4).toNat []).getD 11 (0 : Int))
   ((reports.getD (gi y1 4).toNat []).getD 12 (0 : Int)) ((track.getD (IntKind.i64.wrap (gi y1 4 + (1 : Int))).toNat []).getD 0 (0 : Int))
   ((track.getD (IntKind.i64.wrap (gi y1 4 + (1 : Int))).toNat []).getD 1 (0 : Int)) ||
  xhs (gi y1 4) wrong)), .i (IntKind.i64.wrap (gi y1 4 + (1 : Int)))])))))))))))))))))) else some (3, [.b (gb y1 0), .i (gi y1 1), .i (gi y1 2), .b (gb y1 3), .i (gi y1 4)]))
noncomputable def xbN (from_ : Int) (base forecast reports wrong track : List (List Int)) : Nat × List U := xaC (xce from_ base forecast reports wrong track) (xd8 from_ base forecast reports wrong track)
noncomputable def xdK (from_ : Int) (base forecast reports wrong track : List (List Int)) : Bool :=
 bif xaJ from_ base forecast reports == (1 : Int) || !xc6 (↑reports.length : Int) wrong || (↑track.length : Int) != IntKind.i64.wrap ((↑reports.length : Int) + (1 : Int)) then false
else
 bif (xb6 from_ base forecast reports wrong track).fst.beq 1 then false
 else bif xaJ from_ base forecast reports != (0 : Int) then false else bif (xbN from_ base forecast reports wrong track).fst.beq 1 then false else gb (xbN from_ base forecast reports wrong track).snd 3
noncomputable def xnV (from_ : Int) (base forecast reports wrong track : List (List Int)) : Int :=
 bif (xb6 from_ base forecast reports wrong track).fst.beq 1 then (1 : Int)
else
 bif xaJ from_ base forecast reports != (0 : Int) then xaJ from_ base forecast reports
 else bif (xbN from_ base forecast reports wrong track).fst.beq 1 then gi (xbN from_ base forecast reports wrong track).snd 0 else (0 : Int)
noncomputable def xdJ (from_ : Int) (base forecast reports wrong track : List (List Int)) : Int :=
 bif xaJ from_ base forecast reports == (1 : Int) || !xc6 (↑reports.length : Int) wrong || (↑track.length : Int) != IntKind.i64.wrap ((↑reports.length : Int) + (1 : Int)) then
 (1 : Int)
else (xnV from_ base forecast reports wrong track)
def xfg (from_ : Int) (base forecast reports wrong track : List (List Int)) : Prop :=
 ((xdf from_ base forecast reports) ∧ ((((xaJ from_ base forecast reports == (1 : Int)) = false) → (xd5 (↑reports.length : Int) wrong)) ∧ (((xaJ from_ base forecast reports == (1 : Int) || !xc6 (↑reports.length : Int) wrong || (↑track.length : Int) != IntKind.i64.wrap ((↑reports.length : Int) + (1 : Int))) = false) → (((xay (xcf from_ base forecast reports wrong track) (xfG from_ base forecast reports wrong track))) ∧ (((xb6 from_ base forecast reports wrong track).fst.beq 1 = false) → (((xaJ from_ base forecast reports != (0 : Int)) = false) → ((inR (0 : Int) track) ∧ ((inR (0 : Int) track) ∧ ((xg0 ((track.getD (Int.toNat (0 : Int)) []).getD 0 (0 : Int)) ((track.getD (Int.toNat (0 : Int)) []).getD 1 (0 : Int)) base) ∧ ((xay (xce from_ base forecast reports wrong track) (xd8 from_ base forecast reports wrong track))))))))))))
end Go.Proofs.YtnijhjpaplihbaaGreat
set_option maxRecDepth 100000
set_option linter.unusedVariables false
namespace Go.Proofs.YtnijhjpaplihbaaGreat
open Go Go.Sy
noncomputable def xpb (n most : Int) (y0 y1 : List U) : Int :=
 ((decL (((gr y1 1).getD (gi y1 0).toNat []).getD 0 (0 : Int))).getD (IntKind.i64.wrap (gi y0 1 - (2 : Int))).toNat []).getD 0 (0 : Int) + (1 : Int)
noncomputable def xlC (n most : Int) (y1 y2 : List U) : List (List Int) :=
 [] ++ decL (((gr y2 1).getD (gi y1 0).toNat []).getD 0 (0 : Int)) ++ [[gi y2 0]]
noncomputable def xgp (n most : Int) (y0 y1 : List U) : List U :=
 [.i (IntKind.i64.wrap ((xpb n most y0 y1))), .r (gr y1 1)]
noncomputable def xgo (n most : Int) (y0 y1 : List U) (y2 : List U) : Option (Nat × List U) :=
 (bif decide (gi y2 0 < n) then xab (inR (gi y1 0) (gr y2 1)) (xab (inR (gi y1 0) (gr y2 1)) (xab (xcI 8 (0 + (decL (((gr y2 1).getD (gi y1 0).toNat []).getD 0 (0 : Int))).length)) (xab (xcI 8 (([] ++ decL (((gr y2 1).getD (gi y1 0).toNat []).getD 0 (0 : Int))).length + [[gi y2 0]].length)) (xab (xcI 24 ((gr y2 1).length + [[encL ((xlC n most y1 y2))]].length)) (some (0, [.i (IntKind.i64.wrap (gi y2 0 + (1 : Int))), .r (gr y2 1 ++ [[encL ((xlC n most y1 y2))]])])))))) else some (2, [.i (gi y2 0), .r (gr y2 1)]))
noncomputable def xlE (n most : Int) (y0 y1 : List U) : Nat × List U := xaC (xgo n most y0 y1) (xgp n most y0 y1)
noncomputable def xlB (n most : Int) (y1 y3 : List U) : List (List Int) :=
 [] ++ decL (((gr y3 1).getD (gi y1 0).toNat []).getD 0 (0 : Int)) ++ [[gi y3 0]]
noncomputable def xgn (n most : Int) (y0 y1 : List U) : List U :=
 [.i ((0 : Int)), .r (gr y1 1)]
noncomputable def xgm (n most : Int) (y0 y1 : List U) (y3 : List U) : Option (Nat × List U) :=
 (bif decide (gi y3 0 < n) then xab (inR (gi y1 0) (gr y3 1)) (xab (inR (gi y1 0) (gr y3 1)) (xab (xcI 8 (0 + (decL (((gr y3 1).getD (gi y1 0).toNat []).getD 0 (0 : Int))).length)) (xab (xcI 8 (([] ++ decL (((gr y3 1).getD (gi y1 0).toNat []).getD 0 (0 : Int))).length + [[gi y3 0]].length)) (xab (xcI 24 ((gr y3 1).length + [[encL ((xlB n most y1 y3))]].length)) (some (0, [.i (IntKind.i64.wrap (gi y3 0 + (1 : Int))), .r (gr y3 1 ++ [[encL ((xlB n most y1 y3))]])])))))) else some (2, [.i (gi y3 0), .r (gr y3 1)]))
noncomputable def xlD (n most : Int) (y0 y1 : List U) : Nat × List U := xaC (xgm n most y0 y1) (xgn n most y0 y1)
noncomputable def xer (n most : Int) (y0 : List U) : List U :=
 [.i (gi y0 0), .r (gr y0 2)]
noncomputable def xcE (n most : Int) (y0 : List U) (y1 : List U) : Option (Nat × List U) :=
 (bif decide (gi y1 0 < (↑(gr y0 2).length : Int)) then (bif decide (gi y0 1 > (1 : Int)) then xab (inR (gi y1 0) (gr y1 1)) (xab (inR (gi y1 0) (gr y1 1)) (xab (inR (IntKind.i64.wrap (gi y0 1 - (2 : Int))) (decL (((gr y1 1).getD (gi y1 0).toNat []).getD 0 (0 : Int)))) (xab (inR (IntKind.i64.wrap (gi y0 1 - (2 : Int))) (decL (((gr y1 1).getD (gi y1 0).toNat []).getD 0 (0 : Int)))) (xab ((xay (xgo n most y0 y1) (xgp n most y0 y1))) (some (0, [.i (IntKind.i64.wrap (gi y1 0 + (1 : Int))), .r (gr (xlE n most y0 y1).snd 1)])))))) else xab ((xay (xgm n most y0 y1) (xgn n most y0 y1))) (some (0, [.i (IntKind.i64.wrap (gi y1 0 + (1 : Int))), .r (gr (xlD n most y0 y1).snd 1)]))) else some (3, [.i (gi y1 0), .r (gr y1 1)]))
noncomputable def xlF (n most : Int) (y0 : List U) : Nat × List U := xaC (xcE n most y0) (xer n most y0)
noncomputable def xgq (n most : Int) : List U :=
 [.i ((0 : Int)), .i ((1 : Int)), .r ([[encL []]])]
noncomputable def xes (n most : Int) (y0 : List U) : Option (Nat × List U) :=
 (bif decide (gi y0 1 ≤ most) then xab ((xay (xcE n most y0) (xer n most y0))) (some (0, [.i ((↑(gr y0 2).length : Int)), .i (IntKind.i64.wrap (gi y0 1 + (1 : Int))), .r (gr (xlF n most y0).snd 1)])) else some (2, [.i (gi y0 0), .i (gi y0 1), .r (gr y0 2)]))
noncomputable def xpc (n most : Int) : Nat × List U := xaC (xes n most) (xgq n most)
noncomputable def xal (n most : Int) : List (List Int) :=
 gr (xpc n most).snd 2
def xdP (n most : Int) : Prop :=
 ((xay (xes n most) (xgq n most)))
noncomputable def xev (from_ most : Int) (base forecast reports : List (List Int)) : List U :=
 [.i ((0 : Int)), .i ((0 : Int))]
noncomputable def xch (from_ most : Int) (base forecast reports : List (List Int)) (y0 : List U) : Option (Nat × List U) :=
 (bif decide (gi y0 1 < (↑(xal (↑reports.length : Int) most).length : Int)) then xab (inR (gi y0 1) (xal (↑reports.length : Int) most)) (xab (inR (gi y0 1) (xal (↑reports.length : Int) most)) (xab (xco from_ base forecast reports (decL (((xal (↑reports.length : Int) most).getD (gi y0 1).toNat []).getD 0 (0 : Int)))) ((bif xbB from_ base forecast reports (decL (((xal (↑reports.length : Int) most).getD (gi y0 1).toNat []).getD 0 (0 : Int))) == (0 : Int) then xab (inR (gi y0 1) (xal (↑reports.length : Int) most)) (xab (inR (gi y0 1) (xal (↑reports.length : Int) most)) (some (1, [.r (decL (((xal (↑reports.length : Int) most).getD (gi y0 1).toNat []).getD 0 (0 : Int))), .r (xcg from_ base forecast reports (decL (((xal (↑reports.length : Int) most).getD (gi y0 1).toNat []).getD 0 (0 : Int))))]))) else (bif xbB from_ base forecast reports (decL (((xal (↑reports.length : Int) most).getD (gi y0 1).toNat []).getD 0 (0 : Int))) != (18 : Int) then some (2, [.i (xbB from_ base forecast reports (decL (((xal (↑reports.length : Int) most).getD (gi y0 1).toNat []).getD 0 (0 : Int))))]) else some (0, [.i (gi y0 0), .i (IntKind.i64.wrap (gi y0 1 + (1 : Int)))])))))) else some (4, [.i (gi y0 0), .i (gi y0 1)]))
noncomputable def xba (from_ most : Int) (base forecast reports : List (List Int)) : Nat × List U := xaC (xch from_ most base forecast reports) (xev from_ most base forecast reports)
noncomputable def xaj (from_ most : Int) (base forecast reports : List (List Int)) : List (List Int) :=
 bif xbj from_ most base forecast reports != (0 : Int) then [] else bif (xba from_ most base forecast reports).fst.beq 1 then gr (xba from_ most base forecast reports).snd 0 else []
noncomputable def xd7 (from_ most : Int) (base forecast reports : List (List Int)) : List (List Int) :=
 bif xbj from_ most base forecast reports != (0 : Int) then [] else bif (xba from_ most base forecast reports).fst.beq 1 then gr (xba from_ most base forecast reports).snd 1 else []
noncomputable def xl0 (from_ most : Int) (base forecast reports : List (List Int)) : Int :=
 bif xbj from_ most base forecast reports != (0 : Int) then xbj from_ most base forecast reports
else bif (xba from_ most base forecast reports).fst.beq 1 then (0 : Int) else bif (xba from_ most base forecast reports).fst.beq 2 then gi (xba from_ most base forecast reports).snd 0 else (18 : Int)
noncomputable def xb5 (from_ most : Int) (base forecast reports : List (List Int)) : Int :=
 (xl0 from_ most base forecast reports)
def xc4 (from_ most : Int) (base forecast reports : List (List Int)) : Prop :=
 ((xfh from_ most base forecast reports) ∧ (((xbj from_ most base forecast reports != (0 : Int)) = false) → ((xdP (↑reports.length : Int) most) ∧ ((xay (xch from_ most base forecast reports) (xev from_ most base forecast reports))))))
noncomputable def xnQ (from_ most : Int) (base forecast reports : List (List Int)) (y0 : List U) : List Int :=
 [xhy (xcg from_ base forecast reports (decL (((xal (↑reports.length : Int) most).getD (gi y0 1).toNat []).getD 0 (0 : Int)))),
 xhx (xcg from_ base forecast reports (decL (((xal (↑reports.length : Int) most).getD (gi y0 1).toNat []).getD 0 (0 : Int))))]
noncomputable def xkH (from_ most : Int) (base forecast reports : List (List Int)) (y0 : List U) : List Int :=
 xhA (xcg from_ base forecast reports (decL (((xal (↑reports.length : Int) most).getD (gi y0 1).toNat []).getD 0 (0 : Int)))) ::
 xhz (xcg from_ base forecast reports (decL (((xal (↑reports.length : Int) most).getD (gi y0 1).toNat []).getD 0 (0 : Int)))) :: (xnQ from_ most base forecast reports y0)
noncomputable def xfA (from_ most : Int) (base forecast reports : List (List Int)) : List U :=
 [.i ((0 : Int)), .i ((0 : Int)), .r ([])]
noncomputable def xcd (from_ most : Int) (base forecast reports : List (List Int)) (y0 : List U) : Option (Nat × List U) :=
 (bif decide (gi y0 1 < (↑(xal (↑reports.length : Int) most).length : Int)) then xab (inR (gi y0 1) (xal (↑reports.length : Int) most)) (xab (inR (gi y0 1) (xal (↑reports.length : Int) most)) (xab (xco from_ base forecast reports (decL (((xal (↑reports.length : Int) most).getD (gi y0 1).toNat []).getD 0 (0 : Int)))) ((bif xbB from_ base forecast reports (decL (((xal (↑reports.length : Int) most).getD (gi y0 1).toNat []).getD 0 (0 : Int))) == (0 : Int) then xab (xeV (xcg from_ base forecast reports (decL (((xal (↑reports.length : Int) most).getD (gi y0 1).toNat []).getD 0 (0 : Int))))) (xab (xcI 32 ((gr y0 2).length + [(xkH from_ most base forecast reports y0)].length)) (some (0, [.i (gi y0 0), .i (IntKind.i64.wrap (gi y0 1 + (1 : Int))), .r (gr y0 2 ++ [(xkH from_ most base forecast reports y0)])]))) else (bif xbB from_ base forecast reports (decL (((xal (↑reports.length : Int) most).getD (gi y0 1).toNat []).getD 0 (0 : Int))) != (18 : Int) then some (2, [.i (xbB from_ base forecast reports (decL (((xal (↑reports.length : Int) most).getD (gi y0 1).toNat []).getD 0 (0 : Int))))]) else some (0, [.i (gi y0 0), .i (IntKind.i64.wrap (gi y0 1 + (1 : Int))), .r (gr y0 2)])))))) else some (4, [.i (gi y0 0), .i (gi y0 1), .r (gr y0 2)]))
noncomputable def xaF (from_ most : Int) (base forecast reports : List (List Int)) : Nat × List U := xaC (xcd from_ most base forecast reports) (xfA from_ most base forecast reports)
noncomputable def xnP (from_ most : Int) (base forecast reports : List (List Int)) : Int :=
 bif (xaF from_ most base forecast reports).fst.beq 2 then (0 : Int)
else bif (↑(gr (xaF from_ most base forecast reports).snd 2).length : Int) == (0 : Int) then (0 : Int) else xhA (gr (xaF from_ most base forecast reports).snd 2)
noncomputable def xgV (from_ most : Int) (base forecast reports : List (List Int)) : Int :=
 bif xbj from_ most base forecast reports != (0 : Int) then (0 : Int) else (xnP from_ most base forecast reports)
noncomputable def xnO (from_ most : Int) (base forecast reports : List (List Int)) : Int :=
 bif (xaF from_ most base forecast reports).fst.beq 2 then (0 : Int)
else bif (↑(gr (xaF from_ most base forecast reports).snd 2).length : Int) == (0 : Int) then (0 : Int) else xhz (gr (xaF from_ most base forecast reports).snd 2)
noncomputable def xgU (from_ most : Int) (base forecast reports : List (List Int)) : Int :=
 bif xbj from_ most base forecast reports != (0 : Int) then (0 : Int) else (xnO from_ most base forecast reports)
noncomputable def xnN (from_ most : Int) (base forecast reports : List (List Int)) : Int :=
 bif (xaF from_ most base forecast reports).fst.beq 2 then (0 : Int)
else bif (↑(gr (xaF from_ most base forecast reports).snd 2).length : Int) == (0 : Int) then (0 : Int) else xhy (gr (xaF from_ most base forecast reports).snd 2)
noncomputable def xgT (from_ most : Int) (base forecast reports : List (List Int)) : Int :=
 bif xbj from_ most base forecast reports != (0 : Int) then (0 : Int) else (xnN from_ most base forecast reports)
noncomputable def xnM (from_ most : Int) (base forecast reports : List (List Int)) : Int :=
 bif (xaF from_ most base forecast reports).fst.beq 2 then (0 : Int)
else bif (↑(gr (xaF from_ most base forecast reports).snd 2).length : Int) == (0 : Int) then (0 : Int) else xhx (gr (xaF from_ most base forecast reports).snd 2)
noncomputable def xgS (from_ most : Int) (base forecast reports : List (List Int)) : Int :=
 bif xbj from_ most base forecast reports != (0 : Int) then (0 : Int) else (xnM from_ most base forecast reports)
noncomputable def xnL (from_ most : Int) (base forecast reports : List (List Int)) : Int :=
 bif (xaF from_ most base forecast reports).fst.beq 2 then gi (xaF from_ most base forecast reports).snd 0 else bif (↑(gr (xaF from_ most base forecast reports).snd 2).length : Int) == (0 : Int) then (18 : Int) else (0 : Int)
noncomputable def xgR (from_ most : Int) (base forecast reports : List (List Int)) : Int :=
 bif xbj from_ most base forecast reports != (0 : Int) then xbj from_ most base forecast reports else (xnL from_ most base forecast reports)
def xfd (from_ most : Int) (base forecast reports : List (List Int)) : Prop :=
 ((xfh from_ most base forecast reports) ∧ (((xbj from_ most base forecast reports != (0 : Int)) = false) → ((xdP (↑reports.length : Int) most) ∧ (((xay (xcd from_ most base forecast reports) (xfA from_ most base forecast reports))) ∧ (((xaF from_ most base forecast reports).fst.beq 2 = false) → ((((↑(gr (xaF from_ most base forecast reports).snd 2).length : Int) == (0 : Int)) = false) → (xeV (gr (xaF from_ most base forecast reports).snd 2))))))))
noncomputable def xfD (from_ most : Int) (base forecast reports : List (List Int)) (y0 : List U) : List U :=
 [.i ((0 : Int)), .r ([])]
noncomputable def xc2 (from_ most : Int) (base forecast reports : List (List Int)) (y0 : List U) (y1 : List U) : Option (Nat × List U) :=
 (bif decide (gi y1 0 < (↑(gr y0 2).length : Int)) then xab (inR (gi y0 1) (xal (↑reports.length : Int) (↑(xaj from_ most base forecast reports).length : Int))) (xab (inR (gi y0 1) (xal (↑reports.length : Int) (↑(xaj from_ most base forecast reports).length : Int))) (xab (inR (gi y1 0) (gr y0 2)) (xab (inR (gi y1 0) (gr y0 2)) (xab (xfF (((gr y0 2).getD (gi y1 0).toNat []).getD 0 (0 : Int))
 (decL (((xal (↑reports.length : Int) (↑(xaj from_ most base forecast reports).length : Int)).getD (gi y0 1).toNat []).getD 0 (0 : Int)))) ((bif xhs (((gr y0 2).getD (gi y1 0).toNat []).getD 0 (0 : Int))
 (decL (((xal (↑reports.length : Int) (↑(xaj from_ most base forecast reports).length : Int)).getD (gi y0 1).toNat []).getD 0 (0 : Int))) then xab (inR (gi y1 0) (gr y0 2)) (xab (inR (gi y1 0) (gr y0 2)) (xab (xcI 8 ((gr y1 1).length + [[((gr y0 2).getD (gi y1 0).toNat []).getD 0 (0 : Int)]].length)) (some (0, [.i (IntKind.i64.wrap (gi y1 0 + (1 : Int))), .r (gr y1 1 ++ [[((gr y0 2).getD (gi y1 0).toNat []).getD 0 (0 : Int)]])])))) else some (0, [.i (IntKind.i64.wrap (gi y1 0 + (1 : Int))), .r (gr y1 1)]))))))) else some (3, [.i (gi y1 0), .r (gr y1 1)]))
noncomputable def xkJ (from_ most : Int) (base forecast reports : List (List Int)) (y0 : List U) : Nat × List U := xaC (xc2 from_ most base forecast reports y0) (xfD from_ most base forecast reports y0)
noncomputable def xfE (from_ most : Int) (base forecast reports : List (List Int)) : List U :=
 [.i ((0 : Int)), .i ((0 : Int)), .r (xaj from_ most base forecast reports)]
noncomputable def xc3 (from_ most : Int) (base forecast reports : List (List Int)) (y0 : List U) : Option (Nat × List U) :=
 (bif decide (gi y0 1 < (↑(xal (↑reports.length : Int) (↑(xaj from_ most base forecast reports).length : Int)).length : Int)) then xab (inR (gi y0 1) (xal (↑reports.length : Int) (↑(xaj from_ most base forecast reports).length : Int))) (xab (inR (gi y0 1) (xal (↑reports.length : Int) (↑(xaj from_ most base forecast reports).length : Int))) ((bif decide
 ((↑(decL (((xal (↑reports.length : Int) (↑(xaj from_ most base forecast reports).length : Int)).getD (gi y0 1).toNat []).getD 0 (0 : Int))).length : Int) <
  (↑(xaj from_ most base forecast reports).length : Int)) then some (0, [.i (gi y0 0), .i (IntKind.i64.wrap (gi y0 1 + (1 : Int))), .r (gr y0 2)]) else xab (inR (gi y0 1) (xal (↑reports.length : Int) (↑(xaj from_ most base forecast reports).length : Int))) (xab (inR (gi y0 1) (xal (↑reports.length : Int) (↑(xaj from_ most base forecast reports).length : Int))) (xab (xco from_ base forecast reports
 (decL (((xal (↑reports.length : Int) (↑(xaj from_ most base forecast reports).length : Int)).getD (gi y0 1).toNat []).getD 0 (0 : Int)))) ((bif xbB from_ base forecast reports
  (decL (((xal (↑reports.length : Int) (↑(xaj from_ most base forecast reports).length : Int)).getD (gi y0 1).toNat []).getD 0 (0 : Int))) ==
 (18 : Int) then some (0, [.i (gi y0 0), .i (IntKind.i64.wrap (gi y0 1 + (1 : Int))), .r (gr y0 2)]) else (bif xbB from_ base forecast reports
  (decL (((xal (↑reports.length : Int) (↑(xaj from_ most base forecast reports).length : Int)).getD (gi y0 1).toNat []).getD 0 (0 : Int))) !=
 (0 : Int) then some (3, [.i (xbB from_ base forecast reports
 (decL (((xal (↑reports.length : Int) (↑(xaj from_ most base forecast reports).length : Int)).getD (gi y0 1).toNat []).getD 0 (0 : Int))))]) else xab ((xay (xc2 from_ most base forecast reports y0) (xfD from_ most base forecast reports y0))) (some (0, [.i (gi y0 0), .i (IntKind.i64.wrap (gi y0 1 + (1 : Int))), .r (gr (xkJ from_ most base forecast reports y0).snd 1)])))))))))) else some (5, [.i (gi y0 0), .i (gi y0 1), .r (gr y0 2)]))
noncomputable def xdQ (from_ most : Int) (base forecast reports : List (List Int)) : Nat × List U := xaC (xc3 from_ most base forecast reports) (xfE from_ most base forecast reports)
noncomputable def xgW (from_ most : Int) (base forecast reports : List (List Int)) : List (List Int) :=
 bif xb5 from_ most base forecast reports != (0 : Int) then [] else bif (xdQ from_ most base forecast reports).fst.beq 3 then [] else gr (xdQ from_ most base forecast reports).snd 2
noncomputable def xhN (from_ most : Int) (base forecast reports : List (List Int)) : Int :=
 bif xb5 from_ most base forecast reports != (0 : Int) then xb5 from_ most base forecast reports
else bif (xdQ from_ most base forecast reports).fst.beq 3 then gi (xdQ from_ most base forecast reports).snd 0 else (0 : Int)
def xfe (from_ most : Int) (base forecast reports : List (List Int)) : Prop :=
 ((xc4 from_ most base forecast reports) ∧ (((xb5 from_ most base forecast reports != (0 : Int)) = false) → ((xdP (↑reports.length : Int) (↑(xaj from_ most base forecast reports).length : Int)) ∧ ((xay (xc3 from_ most base forecast reports) (xfE from_ most base forecast reports))))))
end Go.Proofs.YtnijhjpaplihbaaGreat
set_option maxRecDepth 100000
set_option linter.unusedVariables false
namespace Go.Proofs.YtnijhjpaplihbaaGreat
open Go Go.Sy
noncomputable def xbF (s_From most : Int) (s_Base s_Forecast s_Reports wrong track : List (List Int)) : Bool :=
 bif decide ((↑s_Reports.length : Int) > (8 : Int)) && decide ((↑s_Reports.length : Int) ≤ (12 : Int)) then
 xdU && xaS (xcb s_From s_Base s_Forecast s_Reports wrong) (xcp s_From s_Base s_Forecast s_Reports wrong) &&
    xbw s_From s_Base s_Forecast s_Reports wrong == xc7 s_From s_Base s_Forecast s_Reports wrong &&
   xb3 s_From s_Base s_Forecast s_Reports wrong track == xdK s_From s_Base s_Forecast s_Reports wrong track &&
  xcP s_From s_Base s_Forecast s_Reports wrong track == xdJ s_From s_Base s_Forecast s_Reports wrong track
else
 xdU && xaS (xcb s_From s_Base s_Forecast s_Reports wrong) (xcp s_From s_Base s_Forecast s_Reports wrong) &&
           xbw s_From s_Base s_Forecast s_Reports wrong == xc7 s_From s_Base s_Forecast s_Reports wrong &&
          xb3 s_From s_Base s_Forecast s_Reports wrong track == xdK s_From s_Base s_Forecast s_Reports wrong track &&
         xcP s_From s_Base s_Forecast s_Reports wrong track == xdJ s_From s_Base s_Forecast s_Reports wrong track &&
        xbe (xdb s_From most s_Base s_Forecast s_Reports) (xaj s_From most s_Base s_Forecast s_Reports) &&
       xaS (xdX s_From most s_Base s_Forecast s_Reports) (xd7 s_From most s_Base s_Forecast s_Reports) &&
      xda s_From most s_Base s_Forecast s_Reports == xb5 s_From most s_Base s_Forecast s_Reports &&
     (xcm s_From most s_Base s_Forecast s_Reports == xgV s_From most s_Base s_Forecast s_Reports &&
       (xcl s_From most s_Base s_Forecast s_Reports == xgU s_From most s_Base s_Forecast s_Reports && true) &&
      (xck s_From most s_Base s_Forecast s_Reports == xgT s_From most s_Base s_Forecast s_Reports &&
        (xcj s_From most s_Base s_Forecast s_Reports == xgS s_From most s_Base s_Forecast s_Reports && true) &&
       true)) &&
    xci s_From most s_Base s_Forecast s_Reports == xgR s_From most s_Base s_Forecast s_Reports &&
   xbe (xcn s_From most s_Base s_Forecast s_Reports) (xgW s_From most s_Base s_Forecast s_Reports) &&
  xdW s_From most s_Base s_Forecast s_Reports == xhN s_From most s_Base s_Forecast s_Reports
def xa4 (s_From most : Int) (s_Base s_Forecast s_Reports wrong track : List (List Int)) : Prop :=
 ((xge) ∧ ((xbx s_From s_Base s_Forecast s_Reports wrong) ∧ ((xen s_From s_Base s_Forecast s_Reports wrong) ∧ (((xdU = true) → (xby (xcb s_From s_Base s_Forecast s_Reports wrong) (xcp s_From s_Base s_Forecast s_Reports wrong))) ∧ ((xdc s_From s_Base s_Forecast s_Reports wrong track) ∧ ((xfg s_From s_Base s_Forecast s_Reports wrong track) ∧ (((decide ((↑s_Reports.length : Int) > (8 : Int)) && decide ((↑s_Reports.length : Int) ≤ (12 : Int))) = false) → ((xcc s_From most s_Base s_Forecast s_Reports) ∧ ((xc4 s_From most s_Base s_Forecast s_Reports) ∧ ((((xdU && xaS (xcb s_From s_Base s_Forecast s_Reports wrong) (xcp s_From s_Base s_Forecast s_Reports wrong) &&
    xbw s_From s_Base s_Forecast s_Reports wrong == xc7 s_From s_Base s_Forecast s_Reports wrong &&
   xb3 s_From s_Base s_Forecast s_Reports wrong track == xdK s_From s_Base s_Forecast s_Reports wrong track &&
  xcP s_From s_Base s_Forecast s_Reports wrong track == xdJ s_From s_Base s_Forecast s_Reports wrong track) =
 true) → (xb7 (xdb s_From most s_Base s_Forecast s_Reports) (xaj s_From most s_Base s_Forecast s_Reports))) ∧ ((((xdU && xaS (xcb s_From s_Base s_Forecast s_Reports wrong) (xcp s_From s_Base s_Forecast s_Reports wrong) &&
     xbw s_From s_Base s_Forecast s_Reports wrong == xc7 s_From s_Base s_Forecast s_Reports wrong &&
    xb3 s_From s_Base s_Forecast s_Reports wrong track == xdK s_From s_Base s_Forecast s_Reports wrong track &&
   xcP s_From s_Base s_Forecast s_Reports wrong track == xdJ s_From s_Base s_Forecast s_Reports wrong track &&
  xbe (xdb s_From most s_Base s_Forecast s_Reports) (xaj s_From most s_Base s_Forecast s_Reports)) =
 true) → (xby (xdX s_From most s_Base s_Forecast s_Reports) (xd7 s_From most s_Base s_Forecast s_Reports))) ∧ ((xc9 s_From most s_Base s_Forecast s_Reports) ∧ ((xfd s_From most s_Base s_Forecast s_Reports) ∧ ((xdV s_From most s_Base s_Forecast s_Reports) ∧ ((xfe s_From most s_Base s_Forecast s_Reports) ∧ (((xdU && xaS (xcb s_From s_Base s_Forecast s_Reports wrong) (xcp s_From s_Base s_Forecast s_Reports wrong) &&
         xbw s_From s_Base s_Forecast s_Reports wrong == xc7 s_From s_Base s_Forecast s_Reports wrong &&
        xb3 s_From s_Base s_Forecast s_Reports wrong track == xdK s_From s_Base s_Forecast s_Reports wrong track &&
       xcP s_From s_Base s_Forecast s_Reports wrong track == xdJ s_From s_Base s_Forecast s_Reports wrong track &&
      xbe (xdb s_From most s_Base s_Forecast s_Reports) (xaj s_From most s_Base s_Forecast s_Reports) &&
     xaS (xdX s_From most s_Base s_Forecast s_Reports) (xd7 s_From most s_Base s_Forecast s_Reports) &&
    xda s_From most s_Base s_Forecast s_Reports == xb5 s_From most s_Base s_Forecast s_Reports &&
   (xcm s_From most s_Base s_Forecast s_Reports == xgV s_From most s_Base s_Forecast s_Reports &&
     (xcl s_From most s_Base s_Forecast s_Reports == xgU s_From most s_Base s_Forecast s_Reports && true) &&
    (xck s_From most s_Base s_Forecast s_Reports == xgT s_From most s_Base s_Forecast s_Reports &&
      (xcj s_From most s_Base s_Forecast s_Reports == xgS s_From most s_Base s_Forecast s_Reports && true) &&
     true)) &&
  xci s_From most s_Base s_Forecast s_Reports == xgR s_From most s_Base s_Forecast s_Reports) =
 true) → (xb7 (xcn s_From most s_Base s_Forecast s_Reports) (xgW s_From most s_Base s_Forecast s_Reports))))))))))))))))))
end Go.Proofs.YtnijhjpaplihbaaGreat
