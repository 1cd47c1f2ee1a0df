/- Several texts in one (wip/pack.py): XTd2D XTd2 XTd3D XTd3 XTd4D XTdV XTd4 XTd5D XTd5 XTd6D XTd6 XTdLd XTd8D XTd8 XTd9D XTd9 XTdA. -/
import Derived.Test.YthfjhbbpdhjklaaGreatRows
import Derived.Test.YthfjhbbpdhjklaaGreatQTT05
import Derived.Test.YthfjhbbpdhjklaaGreatQTT07
set_option maxRecDepth 100000
set_option linter.unusedVariables false
namespace Go.Proofs.YthfjhbbpdhjklaaGreat
open Go Go.Sy
noncomputable def xig (uY:Int) (vg:Bool) (uU uT uW uV vf:Int) (uX:Bool) (vb uZ ve vd uv uu uD uE uq uo ut ur:Int):Int :=
 bif vf !=(0:Int) then uY
else bif vg&&(uU==uq&&(uT==uo&&true)&&(uW==ut&&(uV==ur&&true)&&true)) then uY else uu
noncomputable def xif (uY:Int) (vg:Bool) (uU uT uW uV vf:Int) (uX:Bool) (vb uZ ve vd uv uu uD uE uq uo ut ur:Int):Bool :=
 bif vf !=(0:Int) then vg
else bif vg&&(uU==uq&&(uT==uo&&true)&&(uW==ut&&(uV==ur&&true)&&true)) then vg else vg
noncomputable def xie (uY:Int) (vg:Bool) (uU uT uW uV vf:Int) (uX:Bool) (vb uZ ve vd uv uu uD uE uq uo ut ur:Int):Int :=
 bif vf !=(0:Int) then uU
else
 bif vg&&(uU==uq&&(uT==uo&&true)&&(uW==ut&&(uV==ur&&true)&&true)) then uU else uU
noncomputable def xid (uY:Int) (vg:Bool) (uU uT uW uV vf:Int) (uX:Bool) (vb uZ ve vd uv uu uD uE uq uo ut ur:Int):Int :=
 bif vf !=(0:Int) then uT
else
 bif vg&&(uU==uq&&(uT==uo&&true)&&(uW==ut&&(uV==ur&&true)&&true)) then uT else uT
noncomputable def xic (uY:Int) (vg:Bool) (uU uT uW uV vf:Int) (uX:Bool) (vb uZ ve vd uv uu uD uE uq uo ut ur:Int):Int :=
 bif vf !=(0:Int) then uW
else
 bif vg&&(uU==uq&&(uT==uo&&true)&&(uW==ut&&(uV==ur&&true)&&true)) then uW else uW
noncomputable def xib (uY:Int) (vg:Bool) (uU uT uW uV vf:Int) (uX:Bool) (vb uZ ve vd uv uu uD uE uq uo ut ur:Int):Int :=
 bif vf !=(0:Int) then uV
else
 bif vg&&(uU==uq&&(uT==uo&&true)&&(uW==ut&&(uV==ur&&true)&&true)) then uV else uV
noncomputable def xia (uY:Int) (vg:Bool) (uU uT uW uV vf:Int) (uX:Bool) (vb uZ ve vd uv uu uD uE uq uo ut ur:Int):Int :=
 bif vf !=(0:Int) then vf
else bif vg&&(uU==uq&&(uT==uo&&true)&&(uW==ut&&(uV==ur&&true)&&true)) then vf else uD
noncomputable def xh9 (uY:Int) (vg:Bool) (uU uT uW uV vf:Int) (uX:Bool) (vb uZ ve vd uv uu uD uE uq uo ut ur:Int):Bool :=
 bif vf !=(0:Int) then uX
else bif vg&&(uU==uq&&(uT==uo&&true)&&(uW==ut&&(uV==ur&&true)&&true)) then uX else uX
noncomputable def xh8 (uY:Int) (vg:Bool) (uU uT uW uV vf:Int) (uX:Bool) (vb uZ ve vd uv uu uD uE uq uo ut ur:Int):Int :=
 bif vf !=(0:Int) then vb
else
 bif vg&&(uU==uq&&(uT==uo&&true)&&(uW==ut&&(uV==ur&&true)&&true)) then vb else uq
noncomputable def xh7 (uY:Int) (vg:Bool) (uU uT uW uV vf:Int) (uX:Bool) (vb uZ ve vd uv uu uD uE uq uo ut ur:Int):Int :=
 bif vf !=(0:Int) then uZ
else
 bif vg&&(uU==uq&&(uT==uo&&true)&&(uW==ut&&(uV==ur&&true)&&true)) then uZ else uo
noncomputable def xg5 (uY:Int) (vg:Bool) (uU uT uW uV vf:Int) (uX:Bool) (vb uZ ve vd uv uu uD uE uq uo ut ur:Int):Int :=
 bif vf !=(0:Int) then ve
else
 bif vg&&(uU==uq&&(uT==uo&&true)&&(uW==ut&&(uV==ur&&true)&&true)) then ve else ut
noncomputable def xg4 (uY:Int) (vg:Bool) (uU uT uW uV vf:Int) (uX:Bool) (vb uZ ve vd uv uu uD uE uq uo ut ur:Int):Int :=
 bif vf !=(0:Int) then vd
else
 bif vg&&(uU==uq&&(uT==uo&&true)&&(uW==ut&&(uV==ur&&true)&&true)) then vd else ur
noncomputable def xg3 (uY:Int) (vg:Bool) (uU uT uW uV vf:Int) (uX:Bool) (vb uZ ve vd uv uu uD uE uq uo ut ur:Int):Bool :=
 bif vf !=(0:Int) then true
else bif vg&&(uU==uq&&(uT==uo&&true)&&(uW==ut&&(uV==ur&&true)&&true)) then true else true
noncomputable def xg2 (uY:Int) (vg:Bool) (uU uT uW uV vf:Int) (uX:Bool) (vb uZ ve vd uv uu uD uE uq uo ut ur:Int):Int :=
 bif vf !=(0:Int) then (6:Int)
else bif vg&&(uU==uq&&(uT==uo&&true)&&(uW==ut&&(uV==ur&&true)&&true)) then (5:Int) else (0:Int)
noncomputable def xh6 (uY:Int) (vg:Bool) (uU uT uW uV vf:Int) (uX:Bool) (vb uZ ve vd uv uu uD uE uq uo ut ur:Int):Int :=
 bif !vg then uY else bif vf !=(0:Int) then uY else uY
noncomputable def xh5 (uY:Int) (vg:Bool) (uU uT uW uV vf:Int) (uX:Bool) (vb uZ ve vd uv uu uD uE uq uo ut ur:Int):Bool :=
 bif !vg then vg else bif vf !=(0:Int) then vg else vg
noncomputable def xh4 (uY:Int) (vg:Bool) (uU uT uW uV vf:Int) (uX:Bool) (vb uZ ve vd uv uu uD uE uq uo ut ur:Int):Int :=
 bif !vg then uU else bif vf !=(0:Int) then uU else uU
noncomputable def xh3 (uY:Int) (vg:Bool) (uU uT uW uV vf:Int) (uX:Bool) (vb uZ ve vd uv uu uD uE uq uo ut ur:Int):Int :=
 bif !vg then uT else bif vf !=(0:Int) then uT else uT
noncomputable def xh2 (uY:Int) (vg:Bool) (uU uT uW uV vf:Int) (uX:Bool) (vb uZ ve vd uv uu uD uE uq uo ut ur:Int):Int :=
 bif !vg then uW else bif vf !=(0:Int) then uW else uW
noncomputable def xh1 (uY:Int) (vg:Bool) (uU uT uW uV vf:Int) (uX:Bool) (vb uZ ve vd uv uu uD uE uq uo ut ur:Int):Int :=
 bif !vg then uV else bif vf !=(0:Int) then uV else uV
noncomputable def xh0 (uY:Int) (vg:Bool) (uU uT uW uV vf:Int) (uX:Bool) (vb uZ ve vd uv uu uD uE uq uo ut ur:Int):Int :=
 bif !vg then vf else bif vf !=(0:Int) then vf else uD
noncomputable def xhZ (uY:Int) (vg:Bool) (uU uT uW uV vf:Int) (uX:Bool) (vb uZ ve vd uv uu uD uE uq uo ut ur:Int):Bool :=
 bif !vg then uX else bif vf !=(0:Int) then uX else true
noncomputable def xhY (uY:Int) (vg:Bool) (uU uT uW uV vf:Int) (uX:Bool) (vb uZ ve vd uv uu uD uE uq uo ut ur:Int):Int :=
 bif !vg then vb else bif vf !=(0:Int) then vb else vb
noncomputable def xhX (uY:Int) (vg:Bool) (uU uT uW uV vf:Int) (uX:Bool) (vb uZ ve vd uv uu uD uE uq uo ut ur:Int):Int :=
 bif !vg then uZ else bif vf !=(0:Int) then uZ else uZ
noncomputable def xg1 (uY:Int) (vg:Bool) (uU uT uW uV vf:Int) (uX:Bool) (vb uZ ve vd uv uu uD uE uq uo ut ur:Int):Int :=
 bif !vg then ve else bif vf !=(0:Int) then ve else ve
noncomputable def xg0 (uY:Int) (vg:Bool) (uU uT uW uV vf:Int) (uX:Bool) (vb uZ ve vd uv uu uD uE uq uo ut ur:Int):Int :=
 bif !vg then vd else bif vf !=(0:Int) then vd else vd
noncomputable def xgZ (uY:Int) (vg:Bool) (uU uT uW uV vf:Int) (uX:Bool) (vb uZ ve vd uv uu uD uE uq uo ut ur:Int):Bool :=
 bif !vg then true else bif vf !=(0:Int) then true else true
noncomputable def xgY (uY:Int) (vg:Bool) (uU uT uW uV vf:Int) (uX:Bool) (vb uZ ve vd uv uu uD uE uq uo ut ur:Int):Int :=
 bif !vg then (4:Int) else bif vf !=(0:Int) then (6:Int) else (0:Int)
noncomputable def xhW (uY:Int) (vg:Bool) (uU uT uW uV vf:Int) (uX:Bool) (vb uZ ve vd uv uu uD uE uq uo ut ur:Int):Int :=
 bif vf==(0:Int) then uY else bif vf==uD then uY else uY
noncomputable def xhV (uY:Int) (vg:Bool) (uU uT uW uV vf:Int) (uX:Bool) (vb uZ ve vd uv uu uD uE uq uo ut ur:Int):Bool :=
 bif vf==(0:Int) then vg else bif vf==uD then vg else true
noncomputable def xhU (uY:Int) (vg:Bool) (uU uT uW uV vf:Int) (uX:Bool) (vb uZ ve vd uv uu uD uE uq uo ut ur:Int):Int :=
 bif vf==(0:Int) then uU else bif vf==uD then uU else vb
noncomputable def xhT (uY:Int) (vg:Bool) (uU uT uW uV vf:Int) (uX:Bool) (vb uZ ve vd uv uu uD uE uq uo ut ur:Int):Int :=
 bif vf==(0:Int) then uT else bif vf==uD then uT else uZ
noncomputable def xhS (uY:Int) (vg:Bool) (uU uT uW uV vf:Int) (uX:Bool) (vb uZ ve vd uv uu uD uE uq uo ut ur:Int):Int :=
 bif vf==(0:Int) then uW else bif vf==uD then uW else ve
noncomputable def xhR (uY:Int) (vg:Bool) (uU uT uW uV vf:Int) (uX:Bool) (vb uZ ve vd uv uu uD uE uq uo ut ur:Int):Int :=
 bif vf==(0:Int) then uV else bif vf==uD then uV else vd
noncomputable def xhQ (uY:Int) (vg:Bool) (uU uT uW uV vf:Int) (uX:Bool) (vb uZ ve vd uv uu uD uE uq uo ut ur:Int):Int :=
 bif vf==(0:Int) then vf else bif vf==uD then vf else (0:Int)
noncomputable def xhP (uY:Int) (vg:Bool) (uU uT uW uV vf:Int) (uX:Bool) (vb uZ ve vd uv uu uD uE uq uo ut ur:Int):Bool :=
 bif vf==(0:Int) then uX else bif vf==uD then uX else false
noncomputable def xhO (uY:Int) (vg:Bool) (uU uT uW uV vf:Int) (uX:Bool) (vb uZ ve vd uv uu uD uE uq uo ut ur:Int):Int :=
 bif vf==(0:Int) then vb else bif vf==uD then vb else (0:Int)
noncomputable def xhN (uY:Int) (vg:Bool) (uU uT uW uV vf:Int) (uX:Bool) (vb uZ ve vd uv uu uD uE uq uo ut ur:Int):Int :=
 bif vf==(0:Int) then uZ else bif vf==uD then uZ else (0:Int)
noncomputable def xgX (uY:Int) (vg:Bool) (uU uT uW uV vf:Int) (uX:Bool) (vb uZ ve vd uv uu uD uE uq uo ut ur:Int):Int :=
 bif vf==(0:Int) then ve else bif vf==uD then ve else (0:Int)
noncomputable def xgW (uY:Int) (vg:Bool) (uU uT uW uV vf:Int) (uX:Bool) (vb uZ ve vd uv uu uD uE uq uo ut ur:Int):Int :=
 bif vf==(0:Int) then vd else bif vf==uD then vd else (0:Int)
noncomputable def xgV (uY:Int) (vg:Bool) (uU uT uW uV vf:Int) (uX:Bool) (vb uZ ve vd uv uu uD uE uq uo ut ur:Int):Bool :=
 bif vf==(0:Int) then true else bif vf==uD then true else !uX
noncomputable def xgU (uY:Int) (vg:Bool) (uU uT uW uV vf:Int) (uX:Bool) (vb uZ ve vd uv uu uD uE uq uo ut ur:Int):Int :=
 bif vf==(0:Int) then (4:Int) else bif vf==uD then (21:Int) else (0:Int)
noncomputable def xhM (uY:Int) (vg:Bool) (uU uT uW uV vf:Int) (uX:Bool) (vb uZ ve vd uv uu uD uE uq uo ut ur:Int):Int :=
 bif vf==(0:Int) then uY else uY
noncomputable def xhL (uY:Int) (vg:Bool) (uU uT uW uV vf:Int) (uX:Bool) (vb uZ ve vd uv uu uD uE uq uo ut ur:Int):Bool :=
 bif vf==(0:Int) then vg else vg
noncomputable def xhK (uY:Int) (vg:Bool) (uU uT uW uV vf:Int) (uX:Bool) (vb uZ ve vd uv uu uD uE uq uo ut ur:Int):Int :=
 bif vf==(0:Int) then uU else uU
noncomputable def xhJ (uY:Int) (vg:Bool) (uU uT uW uV vf:Int) (uX:Bool) (vb uZ ve vd uv uu uD uE uq uo ut ur:Int):Int :=
 bif vf==(0:Int) then uT else uT
noncomputable def xhI (uY:Int) (vg:Bool) (uU uT uW uV vf:Int) (uX:Bool) (vb uZ ve vd uv uu uD uE uq uo ut ur:Int):Int :=
 bif vf==(0:Int) then uW else uW
noncomputable def xhH (uY:Int) (vg:Bool) (uU uT uW uV vf:Int) (uX:Bool) (vb uZ ve vd uv uu uD uE uq uo ut ur:Int):Int :=
 bif vf==(0:Int) then uV else uV
noncomputable def xhG (uY:Int) (vg:Bool) (uU uT uW uV vf:Int) (uX:Bool) (vb uZ ve vd uv uu uD uE uq uo ut ur:Int):Int :=
 bif vf==(0:Int) then vf else (0:Int)
noncomputable def xhF (uY:Int) (vg:Bool) (uU uT uW uV vf:Int) (uX:Bool) (vb uZ ve vd uv uu uD uE uq uo ut ur:Int):Bool :=
 bif vf==(0:Int) then uX else false
noncomputable def xhE (uY:Int) (vg:Bool) (uU uT uW uV vf:Int) (uX:Bool) (vb uZ ve vd uv uu uD uE uq uo ut ur:Int):Int :=
 bif vf==(0:Int) then vb else (0:Int)
noncomputable def xhD (uY:Int) (vg:Bool) (uU uT uW uV vf:Int) (uX:Bool) (vb uZ ve vd uv uu uD uE uq uo ut ur:Int):Int :=
 bif vf==(0:Int) then uZ else (0:Int)
noncomputable def xgT (uY:Int) (vg:Bool) (uU uT uW uV vf:Int) (uX:Bool) (vb uZ ve vd uv uu uD uE uq uo ut ur:Int):Int :=
 bif vf==(0:Int) then ve else (0:Int)
noncomputable def xgS (uY:Int) (vg:Bool) (uU uT uW uV vf:Int) (uX:Bool) (vb uZ ve vd uv uu uD uE uq uo ut ur:Int):Int :=
 bif vf==(0:Int) then vd else (0:Int)
noncomputable def xgR (uY:Int) (vg:Bool) (uU uT uW uV vf:Int) (uX:Bool) (vb uZ ve vd uv uu uD uE uq uo ut ur:Int):Bool :=
 bif vf==(0:Int) then true else vg
noncomputable def xgQ (uY:Int) (vg:Bool) (uU uT uW uV vf:Int) (uX:Bool) (vb uZ ve vd uv uu uD uE uq uo ut ur:Int):Int :=
 bif vf==(0:Int) then (4:Int) else (0:Int)
end Go.Proofs.YthfjhbbpdhjklaaGreat
set_option maxRecDepth 100000
set_option linter.unusedVariables false
namespace Go.Proofs.YthfjhbbpdhjklaaGreat
open Go Go.Sy
theorem xq9 (uY:Int) (vg:Bool) (uU uT uW uV vf:Int) (uX:Bool) (vb uZ ve vd uv uu uD uE uq uo ut ur:Int):xai Tryz.prog 0 (xaP Tryz.prog K73 xbs 9 177 [.agg [.int .i64 uY,.bool vg,.int .i64 uU,.int .i64 uT,.int .i64 uW,.int .i64 uV,.int .i64 vf,.bool uX,.int .i64 vb,.int .i64 uZ,.int .i64 ve,.int .i64 vd],.agg [.int .i64 uv,.int .i64 uu,.int .i64 uD,.int .i64 uE,.int .i64 uq,.int .i64 uo,.int .i64 ut,.int .i64 ur]] ⟨[],0⟩)=some ⟨none,[],0,[],.tup [.agg [.int .i64 (xig uY vg uU uT uW uV vf uX vb uZ ve vd uv uu uD uE uq uo ut ur),.bool (xif uY vg uU uT uW uV vf uX vb uZ ve vd uv uu uD uE uq uo ut ur),.int .i64 (xie uY vg uU uT uW uV vf uX vb uZ ve vd uv uu uD uE uq uo ut ur),.int .i64 (xid uY vg uU uT uW uV vf uX vb uZ ve vd uv uu uD uE uq uo ut ur),.int .i64 (xic uY vg uU uT uW uV vf uX vb uZ ve vd uv uu uD uE uq uo ut ur),.int .i64 (xib uY vg uU uT uW uV vf uX vb uZ ve vd uv uu uD uE uq uo ut ur),.int .i64 (xia uY vg uU uT uW uV vf uX vb uZ ve vd uv uu uD uE uq uo ut ur),.bool (xh9 uY vg uU uT uW uV vf uX vb uZ ve vd uv uu uD uE uq uo ut ur),.int .i64 (xh8 uY vg uU uT uW uV vf uX vb uZ ve vd uv uu uD uE uq uo ut ur),.int .i64 (xh7 uY vg uU uT uW uV vf uX vb uZ ve vd uv uu uD uE uq uo ut ur),.int .i64 (xg5 uY vg uU uT uW uV vf uX vb uZ ve vd uv uu uD uE uq uo ut ur),.int .i64 (xg4 uY vg uU uT uW uV vf uX vb uZ ve vd uv uu uD uE uq uo ut ur)],.bool (xg3 uY vg uU uT uW uV vf uX vb uZ ve vd uv uu uD uE uq uo ut ur),.int .i64 (xg2 uY vg uU uT uW uV vf uX vb uZ ve vd uv uu uD uE uq uo ut ur)]⟩:=by kernel_rfl
noncomputable def xlV:List U→Option Eff
 | [.i uY,.b vg,.i uU,.i uT,.i uW,.i uV,.i vf,.b uX,.i vb,.i uZ,.i ve,.i vd,.i uv,.i uu,.i uD,.i uE,.i uq,.i uo,.i ut,.i ur]=>some ⟨none,[],0,[],.tup [.agg [.int .i64 (xig uY vg uU uT uW uV vf uX vb uZ ve vd uv uu uD uE uq uo ut ur),.bool (xif uY vg uU uT uW uV vf uX vb uZ ve vd uv uu uD uE uq uo ut ur),.int .i64 (xie uY vg uU uT uW uV vf uX vb uZ ve vd uv uu uD uE uq uo ut ur),.int .i64 (xid uY vg uU uT uW uV vf uX vb uZ ve vd uv uu uD uE uq uo ut ur),.int .i64 (xic uY vg uU uT uW uV vf uX vb uZ ve vd uv uu uD uE uq uo ut ur),.int .i64 (xib uY vg uU uT uW uV vf uX vb uZ ve vd uv uu uD uE uq uo ut ur),.int .i64 (xia uY vg uU uT uW uV vf uX vb uZ ve vd uv uu uD uE uq uo ut ur),.bool (xh9 uY vg uU uT uW uV vf uX vb uZ ve vd uv uu uD uE uq uo ut ur),.int .i64 (xh8 uY vg uU uT uW uV vf uX vb uZ ve vd uv uu uD uE uq uo ut ur),.int .i64 (xh7 uY vg uU uT uW uV vf uX vb uZ ve vd uv uu uD uE uq uo ut ur),.int .i64 (xg5 uY vg uU uT uW uV vf uX vb uZ ve vd uv uu uD uE uq uo ut ur),.int .i64 (xg4 uY vg uU uT uW uV vf uX vb uZ ve vd uv uu uD uE uq uo ut ur)],.bool (xg3 uY vg uU uT uW uV vf uX vb uZ ve vd uv uu uD uE uq uo ut ur),.int .i64 (xg2 uY vg uU uT uW uV vf uX vb uZ ve vd uv uu uD uE uq uo ut ur)]⟩
 | _=>Option.none
noncomputable def K75:Con:=ext Tryz.prog K73 177 [.agg [.int .i64 0,.bool false,.int .i64 0,.int .i64 0,.int .i64 0,.int .i64 0,.int .i64 0,.bool false,.int .i64 0,.int .i64 0,.int .i64 0,.int .i64 0],.agg [.int .i64 0,.int .i64 0,.int .i64 0,.int .i64 0,.int .i64 0,.int .i64 0,.int .i64 0,.int .i64 0]] [] xlV
theorem xGR:xaT Tryz.prog K75:=xah xav xGS (n:=9) rfl rfl fun us x h=>by
 unfold xlV at h
 split at h
 ·cases h; exact ⟨none,xq9 _ _ _ _ _ _ _ _ _ _ _ _ _ _ _ _ _ _ _ _,fun _=>trivial⟩
 ·cases h
theorem xq8 (uY:Int) (vg:Bool) (uU uT uW uV vf:Int) (uX:Bool) (vb uZ ve vd uv uu uD uE uq uo ut ur:Int):xai Tryz.prog 0 (xaP Tryz.prog K75 xbs 9 178 [.agg [.int .i64 uY,.bool vg,.int .i64 uU,.int .i64 uT,.int .i64 uW,.int .i64 uV,.int .i64 vf,.bool uX,.int .i64 vb,.int .i64 uZ,.int .i64 ve,.int .i64 vd],.agg [.int .i64 uv,.int .i64 uu,.int .i64 uD,.int .i64 uE,.int .i64 uq,.int .i64 uo,.int .i64 ut,.int .i64 ur]] ⟨[],0⟩)=some ⟨none,[],0,[],.tup [.agg [.int .i64 (xh6 uY vg uU uT uW uV vf uX vb uZ ve vd uv uu uD uE uq uo ut ur),.bool (xh5 uY vg uU uT uW uV vf uX vb uZ ve vd uv uu uD uE uq uo ut ur),.int .i64 (xh4 uY vg uU uT uW uV vf uX vb uZ ve vd uv uu uD uE uq uo ut ur),.int .i64 (xh3 uY vg uU uT uW uV vf uX vb uZ ve vd uv uu uD uE uq uo ut ur),.int .i64 (xh2 uY vg uU uT uW uV vf uX vb uZ ve vd uv uu uD uE uq uo ut ur),.int .i64 (xh1 uY vg uU uT uW uV vf uX vb uZ ve vd uv uu uD uE uq uo ut ur),.int .i64 (xh0 uY vg uU uT uW uV vf uX vb uZ ve vd uv uu uD uE uq uo ut ur),.bool (xhZ uY vg uU uT uW uV vf uX vb uZ ve vd uv uu uD uE uq uo ut ur),.int .i64 (xhY uY vg uU uT uW uV vf uX vb uZ ve vd uv uu uD uE uq uo ut ur),.int .i64 (xhX uY vg uU uT uW uV vf uX vb uZ ve vd uv uu uD uE uq uo ut ur),.int .i64 (xg1 uY vg uU uT uW uV vf uX vb uZ ve vd uv uu uD uE uq uo ut ur),.int .i64 (xg0 uY vg uU uT uW uV vf uX vb uZ ve vd uv uu uD uE uq uo ut ur)],.bool (xgZ uY vg uU uT uW uV vf uX vb uZ ve vd uv uu uD uE uq uo ut ur),.int .i64 (xgY uY vg uU uT uW uV vf uX vb uZ ve vd uv uu uD uE uq uo ut ur)]⟩:=by kernel_rfl
noncomputable def xlU:List U→Option Eff
 | [.i uY,.b vg,.i uU,.i uT,.i uW,.i uV,.i vf,.b uX,.i vb,.i uZ,.i ve,.i vd,.i uv,.i uu,.i uD,.i uE,.i uq,.i uo,.i ut,.i ur]=>some ⟨none,[],0,[],.tup [.agg [.int .i64 (xh6 uY vg uU uT uW uV vf uX vb uZ ve vd uv uu uD uE uq uo ut ur),.bool (xh5 uY vg uU uT uW uV vf uX vb uZ ve vd uv uu uD uE uq uo ut ur),.int .i64 (xh4 uY vg uU uT uW uV vf uX vb uZ ve vd uv uu uD uE uq uo ut ur),.int .i64 (xh3 uY vg uU uT uW uV vf uX vb uZ ve vd uv uu uD uE uq uo ut ur),.int .i64 (xh2 uY vg uU uT uW uV vf uX vb uZ ve vd uv uu uD uE uq uo ut ur),.int .i64 (xh1 uY vg uU uT uW uV vf uX vb uZ ve vd uv uu uD uE uq uo ut ur),.int .i64 (xh0 uY vg uU uT uW uV vf uX vb uZ ve vd uv uu uD uE uq uo ut ur),.bool (xhZ uY vg uU uT uW uV vf uX vb uZ ve vd uv uu uD uE uq uo ut ur),.int .i64 (xhY uY vg uU uT uW uV vf uX vb uZ ve vd uv uu uD uE uq uo ut ur),.int .i64 (xhX uY vg uU uT uW uV vf uX vb uZ ve vd uv uu uD uE uq uo ut ur),.int .i64 (xg1 uY vg uU uT uW uV vf uX vb uZ ve vd uv uu uD uE uq uo ut ur),.int .i64 (xg0 uY vg uU uT uW uV vf uX vb uZ ve vd uv uu uD uE uq uo ut ur)],.bool (xgZ uY vg uU uT uW uV vf uX vb uZ ve vd uv uu uD uE uq uo ut ur),.int .i64 (xgY uY vg uU uT uW uV vf uX vb uZ ve vd uv uu uD uE uq uo ut ur)]⟩
 | _=>Option.none
noncomputable def K76:Con:=ext Tryz.prog K75 178 [.agg [.int .i64 0,.bool false,.int .i64 0,.int .i64 0,.int .i64 0,.int .i64 0,.int .i64 0,.bool false,.int .i64 0,.int .i64 0,.int .i64 0,.int .i64 0],.agg [.int .i64 0,.int .i64 0,.int .i64 0,.int .i64 0,.int .i64 0,.int .i64 0,.int .i64 0,.int .i64 0]] [] xlU
theorem xGQ:xaT Tryz.prog K76:=xah xav xGR (n:=9) rfl rfl fun us x h=>by
 unfold xlU at h
 split at h
 ·cases h; exact ⟨none,xq8 _ _ _ _ _ _ _ _ _ _ _ _ _ _ _ _ _ _ _ _,fun _=>trivial⟩
 ·cases h
theorem xq7 (uY:Int) (vg:Bool) (uU uT uW uV vf:Int) (uX:Bool) (vb uZ ve vd uv uu uD uE uq uo ut ur:Int):xai Tryz.prog 0 (xaP Tryz.prog K76 xbs 9 179 [.agg [.int .i64 uY,.bool vg,.int .i64 uU,.int .i64 uT,.int .i64 uW,.int .i64 uV,.int .i64 vf,.bool uX,.int .i64 vb,.int .i64 uZ,.int .i64 ve,.int .i64 vd],.agg [.int .i64 uv,.int .i64 uu,.int .i64 uD,.int .i64 uE,.int .i64 uq,.int .i64 uo,.int .i64 ut,.int .i64 ur]] ⟨[],0⟩)=some ⟨none,[],0,[],.tup [.agg [.int .i64 (xhW uY vg uU uT uW uV vf uX vb uZ ve vd uv uu uD uE uq uo ut ur),.bool (xhV uY vg uU uT uW uV vf uX vb uZ ve vd uv uu uD uE uq uo ut ur),.int .i64 (xhU uY vg uU uT uW uV vf uX vb uZ ve vd uv uu uD uE uq uo ut ur),.int .i64 (xhT uY vg uU uT uW uV vf uX vb uZ ve vd uv uu uD uE uq uo ut ur),.int .i64 (xhS uY vg uU uT uW uV vf uX vb uZ ve vd uv uu uD uE uq uo ut ur),.int .i64 (xhR uY vg uU uT uW uV vf uX vb uZ ve vd uv uu uD uE uq uo ut ur),.int .i64 (xhQ uY vg uU uT uW uV vf uX vb uZ ve vd uv uu uD uE uq uo ut ur),.bool (xhP uY vg uU uT uW uV vf uX vb uZ ve vd uv uu uD uE uq uo ut ur),.int .i64 (xhO uY vg uU uT uW uV vf uX vb uZ ve vd uv uu uD uE uq uo ut ur),.int .i64 (xhN uY vg uU uT uW uV vf uX vb uZ ve vd uv uu uD uE uq uo ut ur),.int .i64 (xgX uY vg uU uT uW uV vf uX vb uZ ve vd uv uu uD uE uq uo ut ur),.int .i64 (xgW uY vg uU uT uW uV vf uX vb uZ ve vd uv uu uD uE uq uo ut ur)],.bool (xgV uY vg uU uT uW uV vf uX vb uZ ve vd uv uu uD uE uq uo ut ur),.int .i64 (xgU uY vg uU uT uW uV vf uX vb uZ ve vd uv uu uD uE uq uo ut ur)]⟩:=by kernel_rfl
noncomputable def xlT:List U→Option Eff
 | [.i uY,.b vg,.i uU,.i uT,.i uW,.i uV,.i vf,.b uX,.i vb,.i uZ,.i ve,.i vd,.i uv,.i uu,.i uD,.i uE,.i uq,.i uo,.i ut,.i ur]=>some ⟨none,[],0,[],.tup [.agg [.int .i64 (xhW uY vg uU uT uW uV vf uX vb uZ ve vd uv uu uD uE uq uo ut ur),.bool (xhV uY vg uU uT uW uV vf uX vb uZ ve vd uv uu uD uE uq uo ut ur),.int .i64 (xhU uY vg uU uT uW uV vf uX vb uZ ve vd uv uu uD uE uq uo ut ur),.int .i64 (xhT uY vg uU uT uW uV vf uX vb uZ ve vd uv uu uD uE uq uo ut ur),.int .i64 (xhS uY vg uU uT uW uV vf uX vb uZ ve vd uv uu uD uE uq uo ut ur),.int .i64 (xhR uY vg uU uT uW uV vf uX vb uZ ve vd uv uu uD uE uq uo ut ur),.int .i64 (xhQ uY vg uU uT uW uV vf uX vb uZ ve vd uv uu uD uE uq uo ut ur),.bool (xhP uY vg uU uT uW uV vf uX vb uZ ve vd uv uu uD uE uq uo ut ur),.int .i64 (xhO uY vg uU uT uW uV vf uX vb uZ ve vd uv uu uD uE uq uo ut ur),.int .i64 (xhN uY vg uU uT uW uV vf uX vb uZ ve vd uv uu uD uE uq uo ut ur),.int .i64 (xgX uY vg uU uT uW uV vf uX vb uZ ve vd uv uu uD uE uq uo ut ur),.int .i64 (xgW uY vg uU uT uW uV vf uX vb uZ ve vd uv uu uD uE uq uo ut ur)],.bool (xgV uY vg uU uT uW uV vf uX vb uZ ve vd uv uu uD uE uq uo ut ur),.int .i64 (xgU uY vg uU uT uW uV vf uX vb uZ ve vd uv uu uD uE uq uo ut ur)]⟩
 | _=>Option.none
noncomputable def K77:Con:=ext Tryz.prog K76 179 [.agg [.int .i64 0,.bool false,.int .i64 0,.int .i64 0,.int .i64 0,.int .i64 0,.int .i64 0,.bool false,.int .i64 0,.int .i64 0,.int .i64 0,.int .i64 0],.agg [.int .i64 0,.int .i64 0,.int .i64 0,.int .i64 0,.int .i64 0,.int .i64 0,.int .i64 0,.int .i64 0]] [] xlT
theorem xGP:xaT Tryz.prog K77:=xah xav xGQ (n:=9) rfl rfl fun us x h=>by
 unfold xlT at h
 split at h
 ·cases h; exact ⟨none,xq7 _ _ _ _ _ _ _ _ _ _ _ _ _ _ _ _ _ _ _ _,fun _=>trivial⟩
 ·cases h
theorem xq6 (uY:Int) (vg:Bool) (uU uT uW uV vf:Int) (uX:Bool) (vb uZ ve vd uv uu uD uE uq uo ut ur:Int):xai Tryz.prog 0 (xaP Tryz.prog K77 xbs 9 180 [.agg [.int .i64 uY,.bool vg,.int .i64 uU,.int .i64 uT,.int .i64 uW,.int .i64 uV,.int .i64 vf,.bool uX,.int .i64 vb,.int .i64 uZ,.int .i64 ve,.int .i64 vd],.agg [.int .i64 uv,.int .i64 uu,.int .i64 uD,.int .i64 uE,.int .i64 uq,.int .i64 uo,.int .i64 ut,.int .i64 ur]] ⟨[],0⟩)=some ⟨none,[],0,[],.tup [.agg [.int .i64 (xhM uY vg uU uT uW uV vf uX vb uZ ve vd uv uu uD uE uq uo ut ur),.bool (xhL uY vg uU uT uW uV vf uX vb uZ ve vd uv uu uD uE uq uo ut ur),.int .i64 (xhK uY vg uU uT uW uV vf uX vb uZ ve vd uv uu uD uE uq uo ut ur),.int .i64 (xhJ uY vg uU uT uW uV vf uX vb uZ ve vd uv uu uD uE uq uo ut ur),.int .i64 (xhI uY vg uU uT uW uV vf uX vb uZ ve vd uv uu uD uE uq uo ut ur),.int .i64 (xhH uY vg uU uT uW uV vf uX vb uZ ve vd uv uu uD uE uq uo ut ur),.int .i64 (xhG uY vg uU uT uW uV vf uX vb uZ ve vd uv uu uD uE uq uo ut ur),.bool (xhF uY vg uU uT uW uV vf uX vb uZ ve vd uv uu uD uE uq uo ut ur),.int .i64 (xhE uY vg uU uT uW uV vf uX vb uZ ve vd uv uu uD uE uq uo ut ur),.int .i64 (xhD uY vg uU uT uW uV vf uX vb uZ ve vd uv uu uD uE uq uo ut ur),.int .i64 (xgT uY vg uU uT uW uV vf uX vb uZ ve vd uv uu uD uE uq uo ut ur),.int .i64 (xgS uY vg uU uT uW uV vf uX vb uZ ve vd uv uu uD uE uq uo ut ur)],.bool (xgR uY vg uU uT uW uV vf uX vb uZ ve vd uv uu uD uE uq uo ut ur),.int .i64 (xgQ uY vg uU uT uW uV vf uX vb uZ ve vd uv uu uD uE uq uo ut ur)]⟩:=by kernel_rfl
noncomputable def xlS:List U→Option Eff
 | [.i uY,.b vg,.i uU,.i uT,.i uW,.i uV,.i vf,.b uX,.i vb,.i uZ,.i ve,.i vd,.i uv,.i uu,.i uD,.i uE,.i uq,.i uo,.i ut,.i ur]=>some ⟨none,[],0,[],.tup [.agg [.int .i64 (xhM uY vg uU uT uW uV vf uX vb uZ ve vd uv uu uD uE uq uo ut ur),.bool (xhL uY vg uU uT uW uV vf uX vb uZ ve vd uv uu uD uE uq uo ut ur),.int .i64 (xhK uY vg uU uT uW uV vf uX vb uZ ve vd uv uu uD uE uq uo ut ur),.int .i64 (xhJ uY vg uU uT uW uV vf uX vb uZ ve vd uv uu uD uE uq uo ut ur),.int .i64 (xhI uY vg uU uT uW uV vf uX vb uZ ve vd uv uu uD uE uq uo ut ur),.int .i64 (xhH uY vg uU uT uW uV vf uX vb uZ ve vd uv uu uD uE uq uo ut ur),.int .i64 (xhG uY vg uU uT uW uV vf uX vb uZ ve vd uv uu uD uE uq uo ut ur),.bool (xhF uY vg uU uT uW uV vf uX vb uZ ve vd uv uu uD uE uq uo ut ur),.int .i64 (xhE uY vg uU uT uW uV vf uX vb uZ ve vd uv uu uD uE uq uo ut ur),.int .i64 (xhD uY vg uU uT uW uV vf uX vb uZ ve vd uv uu uD uE uq uo ut ur),.int .i64 (xgT uY vg uU uT uW uV vf uX vb uZ ve vd uv uu uD uE uq uo ut ur),.int .i64 (xgS uY vg uU uT uW uV vf uX vb uZ ve vd uv uu uD uE uq uo ut ur)],.bool (xgR uY vg uU uT uW uV vf uX vb uZ ve vd uv uu uD uE uq uo ut ur),.int .i64 (xgQ uY vg uU uT uW uV vf uX vb uZ ve vd uv uu uD uE uq uo ut ur)]⟩
 | _=>Option.none
noncomputable def K78:Con:=ext Tryz.prog K77 180 [.agg [.int .i64 0,.bool false,.int .i64 0,.int .i64 0,.int .i64 0,.int .i64 0,.int .i64 0,.bool false,.int .i64 0,.int .i64 0,.int .i64 0,.int .i64 0],.agg [.int .i64 0,.int .i64 0,.int .i64 0,.int .i64 0,.int .i64 0,.int .i64 0,.int .i64 0,.int .i64 0]] [] xlS
theorem xGO:xaT Tryz.prog K78:=xah xav xGP (n:=9) rfl rfl fun us x h=>by
 unfold xlS at h
 split at h
 ·cases h; exact ⟨none,xq6 _ _ _ _ _ _ _ _ _ _ _ _ _ _ _ _ _ _ _ _,fun _=>trivial⟩
 ·cases h
end Go.Proofs.YthfjhbbpdhjklaaGreat
set_option maxRecDepth 100000
set_option linter.unusedVariables false
namespace Go.Proofs.YthfjhbbpdhjklaaGreat
open Go Go.Sy
noncomputable def xb9 (x:Int):Bool :=
 x !=x
noncomputable def xaI (x y:Int):Int :=
 bif xb9 x then bif xb9 y then (0:Int) else (-1:Int)
else bif xb9 y then (1:Int) else bif decide (x<y) then (-1:Int) else bif decide (x>y) then (1:Int) else (0:Int)
noncomputable def xej (vals:List (List Int)):List U :=
 [.i ((0:Int)),.i ((0:Int))]
noncomputable def xb6 (vals:List (List Int)) (y0:List U):Option (Nat×List U) :=
 (bif decide (gi y0 1<(↑vals.length:Int)) then xaH (inR (gi y0 1) vals) (xaH (inR (gi y0 1) vals) ((bif (vals.getD (gi y0 1).toNat []).getD 0 (0:Int) !=(0:Int) then some (1,[.i ((vals.getD (gi y0 1).toNat []).getD 0 (0:Int))]) else some (0,[.i (gi y0 0),.i (IntKind.i64.wrap (gi y0 1+(1:Int)))])))) else some (3,[.i (gi y0 0),.i (gi y0 1)]))
noncomputable def xhb (vals:List (List Int)):Nat×List U:=xa6 (xb6 vals) (xej vals)
noncomputable def xdB (vals:List (List Int)):Int :=
 bif (xhb vals).fst.beq 1 then gi (xhb vals).snd 0 else (0:Int)
def xfq (vals:List (List Int)):Prop :=
 ((xa5 (xb6 vals) (xej vals)))
end Go.Proofs.YthfjhbbpdhjklaaGreat
set_option maxRecDepth 100000
set_option linter.unusedVariables false
namespace Go.Proofs.YthfjhbbpdhjklaaGreat
open Go Go.Sy
theorem xp6 (x:Int):xai Tryz.prog 0 (xaP Tryz.prog K78 xbs 9 153 [.int .i64 x] ⟨[],0⟩)=some ⟨none,[],0,[],.bool (xb9 x)⟩:=by kernel_rfl
noncomputable def xla:List U→Option Eff
 | [.i x]=>some ⟨none,[],0,[],.bool (xb9 x)⟩
 | _=>Option.none
noncomputable def K79:Con:=ext Tryz.prog K78 153 [.int .i64 0] [] xla
theorem xGN:xaT Tryz.prog K79:=xah xav xGO (n:=9) rfl rfl fun us x h=>by
 unfold xla at h
 split at h
 ·cases h; exact ⟨none,xp6 _,fun _=>trivial⟩
 ·cases h
theorem xoh (x y:Int):xai Tryz.prog 0 (xaP Tryz.prog K79 xbs 9 96 [.int .i64 x,.int .i64 y] ⟨[],0⟩)=some ⟨none,[],0,[],.int .i64 (xaI x y)⟩:=by kernel_rfl
noncomputable def xjV:List U→Option Eff
 | [.i x,.i y]=>some ⟨none,[],0,[],.int .i64 (xaI x y)⟩
 | _=>Option.none
noncomputable def K80:Con:=ext Tryz.prog K79 96 [.int .i64 0,.int .i64 0] [] xjV
theorem xGM:xaT Tryz.prog K80:=xah xav xGN (n:=9) rfl rfl fun us x h=>by
 unfold xjV at h
 split at h
 ·cases h; exact ⟨none,xoh _ _,fun _=>trivial⟩
 ·cases h
theorem xuS (vals:List (List Int)):xai Tryz.prog 1 (xaP Tryz.prog K80 xbs 9 98 [.sl 0] ⟨[⟨0,1,false,.row 3 [.int .i64] vals⟩],1⟩)=some ⟨some (xfq vals),[],0,[],.int .i64 (xdB vals)⟩:=by kernel_rfl
noncomputable def xnV:List U→Option Eff
 | [.r vals]=>some ⟨some (xfq vals),[],0,[],.int .i64 (xdB vals)⟩
 | _=>Option.none
noncomputable def K81:Con:=ext Tryz.prog K80 98 [.sl 0] [⟨0,0,false,.row 3 [.int .i64] []⟩] xnV
theorem xGL:xaT Tryz.prog K81:=xah xav xGM (n:=9) rfl rfl fun us x h=>by
 unfold xnV at h
 split at h
 ·cases h; exact ⟨some (xfq _),xuS _,fun h=>h⟩
 ·cases h
end Go.Proofs.YthfjhbbpdhjklaaGreat
set_option maxRecDepth 100000
set_option linter.unusedVariables false
namespace Go.Proofs.YthfjhbbpdhjklaaGreat
open Go Go.Sy
noncomputable def xiq (uF uI uL uO:Int):Int :=
 IntKind.i64.wrap (uL-uF)
noncomputable def xip (uF uI uL uO:Int):Int :=
 IntKind.i64.wrap (uO-uI)
noncomputable def xeB (v_x v_y w_x w_y:Int):Int :=
 IntKind.i64.wrap (IntKind.i64.wrap (v_x*w_y)-IntKind.i64.wrap (v_y*w_x))
noncomputable def xa0 (uF uI uL uO uR uS:Int):Int :=
 xaI (xeB (xiq uF uI uL uO) (xip uF uI uL uO) (xiq uF uI uR uS) (xip uF uI uR uS)) (0:Int)
noncomputable def xgo (un:List (List Int)):List U :=
 [.b (false),.i ((0:Int))]
noncomputable def xdL (un:List (List Int)) (y0:List U):Option (Nat×List U) :=
 (bif decide (gi y0 1<(↑un.length:Int)) then xaH (inR (gi y0 1) un) (xaH (inR (gi y0 1) un) ((bif !xaG ((un.getD (gi y0 1).toNat []).getD 0 (0:Int)) ((un.getD (gi y0 1).toNat []).getD 1 (0:Int)) then some (1,[]) else some (0,[.b (gb y0 0),.i (IntKind.i64.wrap (gi y0 1+(1:Int)))])))) else some (3,[.b (gb y0 0),.i (gi y0 1)]))
noncomputable def xnD (un:List (List Int)):Nat×List U:=xa6 (xdL un) (xgo un)
noncomputable def xcb (un:List (List Int)):Bool :=
 bif (xnD un).fst.beq 1 then false else true
def xcn (un:List (List Int)):Prop :=
 ((xa5 (xdL un) (xgo un)))
noncomputable def xkd (uF uI uL uO uR uS:Int):Int :=
 bif !xcb [[uF,uI],[uL,uO],[uR,uS]] then (0:Int) else xa0 uF uI uL uO uR uS
noncomputable def xqn (uF uI uL uO uR uS:Int):Int :=
 bif !xcb [[uF,uI],[uL,uO],[uR,uS]] then (1:Int) else (0:Int)
def xkq (uF uI uL uO uR uS:Int):Prop :=
 (xcn [[uF,uI],[uL,uO],[uR,uS]])
noncomputable def xfl (vr vt uF uI uL uO:Int):Bool :=
 xa0 uF uI uL uO vr vt==(0:Int)&&decide (imin uF uL≤vr)&&decide (vr≤imax uF uL)&&decide (imin uI uO≤vt)&&decide (vt≤imax uI uO)
noncomputable def xnb (vr vt uF uI uL uO:Int):Bool :=
 bif !xcb [[vr,vt],[uF,uI],[uL,uO]] then false else xfl vr vt uF uI uL uO
noncomputable def xu8 (vr vt uF uI uL uO:Int):Int :=
 bif !xcb [[vr,vt],[uF,uI],[uL,uO]] then (1:Int) else (0:Int)
def xmt (vr vt uF uI uL uO:Int):Prop :=
 (xcn [[vr,vt],[uF,uI],[uL,uO]])
noncomputable def xkc (uF uI uL uO uR uS vh vi:Int):Bool :=
 bif
  decide (IntKind.i64.wrap (xa0 uF uI uL uO uR uS*xa0 uF uI uL uO vh vi)<(0:Int)) &&
   decide (IntKind.i64.wrap (xa0 uR uS vh vi uF uI*xa0 uR uS vh vi uL uO)<(0:Int)) then
 true
else xfl uF uI uR uS vh vi||xfl uL uO uR uS vh vi||xfl uR uS uF uI uL uO||xfl vh vi uF uI uL uO
noncomputable def xfD (uF uI uL uO uR uS vh vi:Int):Bool :=
 bif !xcb [[uF,uI],[uL,uO],[uR,uS],[vh,vi]] then false else xkc uF uI uL uO uR uS vh vi
noncomputable def xqp (uF uI uL uO uR uS vh vi:Int):Int :=
 bif !xcb [[uF,uI],[uL,uO],[uR,uS],[vh,vi]] then (1:Int) else (0:Int)
def xkr (uF uI uL uO uR uS vh vi:Int):Prop :=
 (xcn [[uF,uI],[uL,uO],[uR,uS],[vh,vi]])
noncomputable def xmo (uF uI uL uO:Int):Int :=
 xdB [[xaI uF uL],[xaI uI uO]]
def xkp (uF uI uL uO:Int):Prop :=
 (xfq [[xaI uF uL],[xaI uI uO]])
noncomputable def xfC (uF uI uL uO uR uS:Int):Int :=
 xkd uF uI uL uO uR uS
noncomputable def xbr (vu vx uF uI uL uO:Int):Bool :=
 xnb vu vx uF uI uL uO
end Go.Proofs.YthfjhbbpdhjklaaGreat
set_option linter.unusedVariables false
set_option maxRecDepth 100000
namespace Go.Proofs.YthfjhbbpdhjklaaGreat
open Go Go.Sy
theorem xhC {l:List (List Int)} {i:Nat} (hi:i<l.length):l.getD i []=l[i]:=by rw [List.getD_eq_getElem?_getD,List.getElem?_eq_getElem hi]; rfl
theorem xBY {step:List U→Option (Nat×List U)} {l:List (List Int)} {p:List Int→Bool} {mk:Nat→List U} {out:Nat→List U} {fin:List U} (m:Nat) (hs:∀ i,i<l.length→step (mk i)=bif p (l.getD i []) then some (1,out i) else some (0,mk (i+1)))
  (he:step (mk l.length)=some (m+2,fin)) {init:List U} (hi:init=mk 0):xa5 step init∧(xa6 step init).1.beq 1=l.any p:=by
 subst hi
 obtain ⟨h1,h2⟩:=xev (step:=step) l.length (fun i=>p (l.getD i [])) mk out 0 (m+1) fin hs he
 refine ⟨h1,?_⟩
 rcases h2 with ⟨i,hi,hp,_,hg⟩ | ⟨hn,hg⟩
 ·rw [hg]
  have:l.any p=true:=List.any_eq_true.2 ⟨l[i],List.getElem_mem hi,by rw [← xhC hi]; exact hp⟩
  rw [this]; rfl
 ·rw [hg]
  have:l.any p=false:=List.any_eq_false.2 fun x hx=>by
   obtain ⟨i,hi,rfl⟩:=List.getElem_of_mem hx
   have:=hn i hi
   simp only [xhC hi] at this
   simp [this]
  rw [this]; rfl
theorem xgK (l:List (List Int)) (h:l.length<4611686018427387904):xcn l∧xcb l=l.all fun r=>xaG (r.getD 0 0) (r.getD 1 0):=by
 obtain ⟨h1,h2⟩:=xBY (step:=xdL l) (l:=l) (p:=fun r=>!xaG (r.getD 0 0) (r.getD 1 0)) (mk:=fun i=>[.b false,.i i]) (out:=fun _=>[]) (fin:=[.b false,.i l.length]) 1
  (fun i hi=>by
   unfold xdL
   simp only [gi_1,gi_z,gb_z,dlt hi,xaa (xey hi),xbQ (show i<4611686018427387904 by omega),Int.toNat_natCast])
  (by
   unfold xdL
   simp only [gi_1,gi_z,gb_z,dnlt])
  (init:=xgo l) rfl
 refine ⟨h1,?_⟩
 unfold xcb xnD
 rw [h2,List.all_eq_not_any_not]
 cases l.any fun r=>!xaG (r.getD 0 0) (r.getD 1 0)<;>rfl
theorem xDJ (a b c d e f:Int):xcn [[a,b],[c,d],[e,f]]:=(xgK _ (by simp)).1
theorem xFd (a b c d e f g h:Int):xcn [[a,b],[c,d],[e,f],[g,h]]:=(xgK _ (by simp)).1
theorem xzK (a b:Int):xfq [[a],[b]]∧xdB [[a],[b]]=if a=0 then b else a:=by
 have hs0:xb6 [[a],[b]] [.i 0,.i 0]=bif a !=0 then some (1,[.i a]) else some (0,[.i 0,.i 1]):=by
  unfold xb6
  simp only [gi_1,gi_z]
  have h0:inR 0 [[a],[b]]:=by unfold inR; simp
  rw [xaa h0,xaa h0,show IntKind.i64.wrap ((0:Int)+1)=1 from xau (by omega)]
  rfl
 have hs1:xb6 [[a],[b]] [.i 0,.i 1]=bif b !=0 then some (1,[.i b]) else some (0,[.i 0,.i 2]):=by
  unfold xb6
  simp only [gi_1,gi_z]
  have h0:inR 1 [[a],[b]]:=by unfold inR; simp
  rw [xaa h0,xaa h0,show IntKind.i64.wrap ((1:Int)+1)=2 from xau (by omega)]
  rfl
 have hs2:xb6 [[a],[b]] [.i 0,.i 2]=some (3,[.i 0,.i 2]):=by
  unfold xb6
  simp only [gi_1,gi_z]
  rfl
 by_cases ha:a=0
 ·have e0:(a !=0)=false:=by simp [ha]
  rw [e0] at hs0
  by_cases hb:b=0
  ·have e1:(b !=0)=false:=by simp [hb]
   rw [e1] at hs1
   obtain ⟨g1,g2⟩:=xfI (xaK hs0 (xaK hs1 (xcB hs2)))
   refine ⟨g1,?_⟩
   unfold xdB xhb
   rw [show xej [[a],[b]]=[.i 0,.i 0] from rfl,g2,if_pos ha,hb]; rfl
  ·have e1:(b !=0)=true:=by simp [hb]
   rw [e1] at hs1
   obtain ⟨g1,g2⟩:=xfI (xaK hs0 (xcB hs1))
   refine ⟨g1,?_⟩
   unfold xdB xhb
   rw [show xej [[a],[b]]=[.i 0,.i 0] from rfl,g2,if_pos ha]; rfl
 ·have e0:(a !=0)=true:=by simp [ha]
  rw [e0] at hs0
  obtain ⟨g1,g2⟩:=xfI (xcB hs0)
  refine ⟨g1,?_⟩
  unfold xdB xhb
  rw [show xej [[a],[b]]=[.i 0,.i 0] from rfl,g2,if_neg ha]; rfl
theorem or2 (a b:Int):xfq [[a],[b]]:=(xzK a b).1
theorem xpD (uF uI uL uO uR uS:Int):xkq uF uI uL uO uR uS:=xDJ _ _ _ _ _ _
theorem xrN (vr vt uF uI uL uO:Int):xmt vr vt uF uI uL uO:=xDJ _ _ _ _ _ _
theorem xpE (uF uI uL uO uR uS vh vi:Int):xkr uF uI uL uO uR uS vh vi:=xFd _ _ _ _ _ _ _ _
theorem xpC (uF uI uL uO:Int):xkp uF uI uL uO:=or2 _ _
end Go.Proofs.YthfjhbbpdhjklaaGreat
set_option maxRecDepth 100000
set_option linter.unusedVariables false
namespace Go.Proofs.YthfjhbbpdhjklaaGreat
open Go Go.Sy
theorem xuA (uF uI uL uO:Int):xai Tryz.prog 0 (xaP Tryz.prog K81 xbs 9 231 [.agg [.int .i64 uF,.int .i64 uI],.agg [.int .i64 uL,.int .i64 uO]] ⟨[],0⟩)=some ⟨none,[],0,[],.agg [.int .i64 (xiq uF uI uL uO),.int .i64 (xip uF uI uL uO)]⟩:=by kernel_rfl
noncomputable def xnG:List U→Option Eff
 | [.i uF,.i uI,.i uL,.i uO]=>some ⟨none,[],0,[],.agg [.int .i64 (xiq uF uI uL uO),.int .i64 (xip uF uI uL uO)]⟩
 | _=>Option.none
noncomputable def K82:Con:=ext Tryz.prog K81 231 [.agg [.int .i64 0,.int .i64 0],.agg [.int .i64 0,.int .i64 0]] [] xnG
theorem xGK:xaT Tryz.prog K82:=xah xav xGL (n:=9) rfl rfl fun us x h=>by
 unfold xnG at h
 split at h
 ·cases h; exact ⟨none,xuA _ _ _ _,fun _=>trivial⟩
 ·cases h
theorem xlZ (v_x v_y w_x w_y:Int):xai Tryz.prog 0 (xaP Tryz.prog K82 xbs 9 233 [.agg [.int .i64 v_x,.int .i64 v_y],.agg [.int .i64 w_x,.int .i64 w_y]] ⟨[],0⟩)=some ⟨none,[],0,[],.int .i64 (xeB v_x v_y w_x w_y)⟩:=by kernel_rfl
noncomputable def xhj:List U→Option Eff
 | [.i v_x,.i v_y,.i w_x,.i w_y]=>some ⟨none,[],0,[],.int .i64 (xeB v_x v_y w_x w_y)⟩
 | _=>Option.none
noncomputable def K83:Con:=ext Tryz.prog K82 233 [.agg [.int .i64 0,.int .i64 0],.agg [.int .i64 0,.int .i64 0]] [] xhj
theorem xGJ:xaT Tryz.prog K83:=xah xav xGK (n:=9) rfl rfl fun us x h=>by
 unfold xhj at h
 split at h
 ·cases h; exact ⟨none,xlZ _ _ _ _,fun _=>trivial⟩
 ·cases h
theorem xuy (uF uI uL uO uR uS:Int):xai Tryz.prog 0 (xaP Tryz.prog K83 xbs 9 255 [.agg [.int .i64 uF,.int .i64 uI],.agg [.int .i64 uL,.int .i64 uO],.agg [.int .i64 uR,.int .i64 uS]] ⟨[],0⟩)=some ⟨none,[],0,[],.int .i64 (xa0 uF uI uL uO uR uS)⟩:=by kernel_rfl
noncomputable def xnE:List U→Option Eff
 | [.i uF,.i uI,.i uL,.i uO,.i uR,.i uS]=>some ⟨none,[],0,[],.int .i64 (xa0 uF uI uL uO uR uS)⟩
 | _=>Option.none
noncomputable def K84:Con:=ext Tryz.prog K83 255 [.agg [.int .i64 0,.int .i64 0],.agg [.int .i64 0,.int .i64 0],.agg [.int .i64 0,.int .i64 0]] [] xnE
theorem xGI:xaT Tryz.prog K84:=xah xav xGJ (n:=9) rfl rfl fun us x h=>by
 unfold xnE at h
 split at h
 ·cases h; exact ⟨none,xuy _ _ _ _ _ _,fun _=>trivial⟩
 ·cases h
theorem xrL (un:List (List Int)):xai Tryz.prog 1 (xaP Tryz.prog K84 xbs 9 141 [.sl 0] ⟨[⟨0,1,false,.row 33 [.int .i64,.int .i64] un⟩],1⟩)=some ⟨some (xcn un),[],0,[],.bool (xcb un)⟩:=by kernel_rfl
noncomputable def xmr:List U→Option Eff
 | [.r un]=>some ⟨some (xcn un),[],0,[],.bool (xcb un)⟩
 | _=>Option.none
noncomputable def K85:Con:=ext Tryz.prog K84 141 [.sl 0] [⟨0,0,false,.row 33 [.int .i64,.int .i64] []⟩] xmr
theorem xGH:xaT Tryz.prog K85:=xah xav xGI (n:=9) rfl rfl fun us x h=>by
 unfold xmr at h
 split at h
 ·cases h; exact ⟨some (xcn _),xrL _,fun h=>h⟩
 ·cases h
theorem xuB (uF uI uL uO uR uS:Int):xai Tryz.prog 0 (xaP Tryz.prog K85 xbs 9 226 [.agg [.int .i64 uF,.int .i64 uI],.agg [.int .i64 uL,.int .i64 uO],.agg [.int .i64 uR,.int .i64 uS]] ⟨[],0⟩)=some ⟨some (xkq uF uI uL uO uR uS),[],0,[],.tup [.int .i64 (xkd uF uI uL uO uR uS),.int .i64 (xqn uF uI uL uO uR uS)]⟩:=by kernel_rfl
noncomputable def xnH:List U→Option Eff
 | [.i uF,.i uI,.i uL,.i uO,.i uR,.i uS]=>some ⟨none,[],0,[],.tup [.int .i64 (xkd uF uI uL uO uR uS),.int .i64 (xqn uF uI uL uO uR uS)]⟩
 | _=>Option.none
noncomputable def K86:Con:=ext Tryz.prog K85 226 [.agg [.int .i64 0,.int .i64 0],.agg [.int .i64 0,.int .i64 0],.agg [.int .i64 0,.int .i64 0]] [] xnH
theorem xGG:xaT Tryz.prog K86:=xah xav xGH (n:=9) rfl rfl fun us x h=>by
 unfold xnH at h
 split at h
 ·rename_i uF uI uL uO uR uS; cases h; exact ⟨some (xkq uF uI uL uO uR uS),xuB uF uI uL uO uR uS,fun _=>xpD uF uI uL uO uR uS⟩
 ·cases h
theorem xxm (vr vt uF uI uL uO:Int):xai Tryz.prog 0 (xaP Tryz.prog K86 xbs 9 267 [.agg [.int .i64 vr,.int .i64 vt],.agg [.int .i64 uF,.int .i64 uI],.agg [.int .i64 uL,.int .i64 uO]] ⟨[],0⟩)=some ⟨none,[],0,[],.bool (xfl vr vt uF uI uL uO)⟩:=by kernel_rfl
noncomputable def xqm:List U→Option Eff
 | [.i vr,.i vt,.i uF,.i uI,.i uL,.i uO]=>some ⟨none,[],0,[],.bool (xfl vr vt uF uI uL uO)⟩
 | _=>Option.none
noncomputable def K87:Con:=ext Tryz.prog K86 267 [.agg [.int .i64 0,.int .i64 0],.agg [.int .i64 0,.int .i64 0],.agg [.int .i64 0,.int .i64 0]] [] xqm
theorem xGF:xaT Tryz.prog K87:=xah xav xGG (n:=9) rfl rfl fun us x h=>by
 unfold xqm at h
 split at h
 ·cases h; exact ⟨none,xxm _ _ _ _ _ _,fun _=>trivial⟩
 ·cases h
theorem xxn (vr vt uF uI uL uO:Int):xai Tryz.prog 0 (xaP Tryz.prog K87 xbs 9 296 [.agg [.int .i64 vr,.int .i64 vt],.agg [.int .i64 uF,.int .i64 uI],.agg [.int .i64 uL,.int .i64 uO]] ⟨[],0⟩)=some ⟨some (xmt vr vt uF uI uL uO),[],0,[],.tup [.bool (xnb vr vt uF uI uL uO),.int .i64 (xu8 vr vt uF uI uL uO)]⟩:=by kernel_rfl
noncomputable def xqo:List U→Option Eff
 | [.i vr,.i vt,.i uF,.i uI,.i uL,.i uO]=>some ⟨none,[],0,[],.tup [.bool (xnb vr vt uF uI uL uO),.int .i64 (xu8 vr vt uF uI uL uO)]⟩
 | _=>Option.none
noncomputable def K88:Con:=ext Tryz.prog K87 296 [.agg [.int .i64 0,.int .i64 0],.agg [.int .i64 0,.int .i64 0],.agg [.int .i64 0,.int .i64 0]] [] xqo
theorem xGE:xaT Tryz.prog K88:=xah xav xGF (n:=9) rfl rfl fun us x h=>by
 unfold xqo at h
 split at h
 ·rename_i vr vt uF uI uL uO; cases h; exact ⟨some (xmt vr vt uF uI uL uO),xxn vr vt uF uI uL uO,fun _=>xrN vr vt uF uI uL uO⟩
 ·cases h
theorem xuz (uF uI uL uO uR uS vh vi:Int):xai Tryz.prog 0 (xaP Tryz.prog K88 xbs 9 257 [.agg [.int .i64 uF,.int .i64 uI],.agg [.int .i64 uL,.int .i64 uO],.agg [.int .i64 uR,.int .i64 uS],.agg [.int .i64 vh,.int .i64 vi]] ⟨[],0⟩)=some ⟨none,[],0,[],.bool (xkc uF uI uL uO uR uS vh vi)⟩:=by kernel_rfl
noncomputable def xnF:List U→Option Eff
 | [.i uF,.i uI,.i uL,.i uO,.i uR,.i uS,.i vh,.i vi]=>some ⟨none,[],0,[],.bool (xkc uF uI uL uO uR uS vh vi)⟩
 | _=>Option.none
noncomputable def K89:Con:=ext Tryz.prog K88 257 [.agg [.int .i64 0,.int .i64 0],.agg [.int .i64 0,.int .i64 0],.agg [.int .i64 0,.int .i64 0],.agg [.int .i64 0,.int .i64 0]] [] xnF
theorem xGD:xaT Tryz.prog K89:=xah xav xGE (n:=9) rfl rfl fun us x h=>by
 unfold xnF at h
 split at h
 ·cases h; exact ⟨none,xuz _ _ _ _ _ _ _ _,fun _=>trivial⟩
 ·cases h
theorem xuC (uF uI uL uO uR uS vh vi:Int):xai Tryz.prog 0 (xaP Tryz.prog K89 xbs 9 228 [.agg [.int .i64 uF,.int .i64 uI],.agg [.int .i64 uL,.int .i64 uO],.agg [.int .i64 uR,.int .i64 uS],.agg [.int .i64 vh,.int .i64 vi]] ⟨[],0⟩)=some ⟨some (xkr uF uI uL uO uR uS vh vi),[],0,[],.tup [.bool (xfD uF uI uL uO uR uS vh vi),.int .i64 (xqp uF uI uL uO uR uS vh vi)]⟩:=by kernel_rfl
noncomputable def xnI:List U→Option Eff
 | [.i uF,.i uI,.i uL,.i uO,.i uR,.i uS,.i vh,.i vi]=>some ⟨none,[],0,[],.tup [.bool (xfD uF uI uL uO uR uS vh vi),.int .i64 (xqp uF uI uL uO uR uS vh vi)]⟩
 | _=>Option.none
noncomputable def K90:Con:=ext Tryz.prog K89 228 [.agg [.int .i64 0,.int .i64 0],.agg [.int .i64 0,.int .i64 0],.agg [.int .i64 0,.int .i64 0],.agg [.int .i64 0,.int .i64 0]] [] xnI
theorem xGC:xaT Tryz.prog K90:=xah xav xGD (n:=9) rfl rfl fun us x h=>by
 unfold xnI at h
 split at h
 ·rename_i uF uI uL uO uR uS vh vi; cases h; exact ⟨some (xkr uF uI uL uO uR uS vh vi),xuC uF uI uL uO uR uS vh vi,fun _=>xpE uF uI uL uO uR uS vh vi⟩
 ·cases h
theorem xuw (uF uI uL uO:Int):xai Tryz.prog 0 (xaP Tryz.prog K90 xbs 9 184 [.agg [.int .i64 uF,.int .i64 uI],.agg [.int .i64 uL,.int .i64 uO]] ⟨[],0⟩)=some ⟨some (xkp uF uI uL uO),[],0,[],.int .i64 (xmo uF uI uL uO)⟩:=by kernel_rfl
noncomputable def xnB:List U→Option Eff
 | [.i uF,.i uI,.i uL,.i uO]=>some ⟨none,[],0,[],.int .i64 (xmo uF uI uL uO)⟩
 | _=>Option.none
noncomputable def K91:Con:=ext Tryz.prog K90 184 [.agg [.int .i64 0,.int .i64 0],.agg [.int .i64 0,.int .i64 0]] [] xnB
theorem xGB:xaT Tryz.prog K91:=xah xav xGC (n:=9) rfl rfl fun us x h=>by
 unfold xnB at h
 split at h
 ·rename_i uF uI uL uO; cases h; exact ⟨some (xkp uF uI uL uO),xuw uF uI uL uO,fun _=>xpC uF uI uL uO⟩
 ·cases h
theorem xv3 (uF uI uL uO uR uS:Int):xai Tryz.prog 0 (xaP Tryz.prog K91 xbs 9 185 [.agg [.int .i64 uF,.int .i64 uI],.agg [.int .i64 uL,.int .i64 uO],.agg [.int .i64 uR,.int .i64 uS]] ⟨[],0⟩)=some ⟨none,[],0,[],.int .i64 (xfC uF uI uL uO uR uS)⟩:=by kernel_rfl
noncomputable def xoJ:List U→Option Eff
 | [.i uF,.i uI,.i uL,.i uO,.i uR,.i uS]=>some ⟨none,[],0,[],.int .i64 (xfC uF uI uL uO uR uS)⟩
 | _=>Option.none
noncomputable def K92:Con:=ext Tryz.prog K91 185 [.agg [.int .i64 0,.int .i64 0],.agg [.int .i64 0,.int .i64 0],.agg [.int .i64 0,.int .i64 0]] [] xoJ
theorem xGA:xaT Tryz.prog K92:=xah xav xGB (n:=9) rfl rfl fun us x h=>by
 unfold xoJ at h
 split at h
 ·cases h; exact ⟨none,xv3 _ _ _ _ _ _,fun _=>trivial⟩
 ·cases h
theorem xyK (vu vx uF uI uL uO:Int):xai Tryz.prog 0 (xaP Tryz.prog K92 xbs 9 295 [.agg [.int .i64 vu,.int .i64 vx],.agg [.int .i64 uF,.int .i64 uI],.agg [.int .i64 uL,.int .i64 uO]] ⟨[],0⟩)=some ⟨none,[],0,[],.bool (xbr vu vx uF uI uL uO)⟩:=by kernel_rfl
noncomputable def xrJ:List U→Option Eff
 | [.i vu,.i vx,.i uF,.i uI,.i uL,.i uO]=>some ⟨none,[],0,[],.bool (xbr vu vx uF uI uL uO)⟩
 | _=>Option.none
noncomputable def K93:Con:=ext Tryz.prog K92 295 [.agg [.int .i64 0,.int .i64 0],.agg [.int .i64 0,.int .i64 0],.agg [.int .i64 0,.int .i64 0]] [] xrJ
theorem xGz:xaT Tryz.prog K93:=xah xav xGA (n:=9) rfl rfl fun us x h=>by
 unfold xrJ at h
 split at h
 ·cases h; exact ⟨none,xyK _ _ _ _ _ _,fun _=>trivial⟩
 ·cases h
end Go.Proofs.YthfjhbbpdhjklaaGreat
set_option maxRecDepth 100000
set_option linter.unusedVariables false
namespace Go.Proofs.YthfjhbbpdhjklaaGreat
open Go Go.Sy
noncomputable def xag (i:Int) (s:List (List Int)):Int :=
 (s.getD ((IntKind.i64.wrap (i+(↑s.length:Int))).tmod (↑s.length:Int)).toNat []).getD 0 (0:Int)
noncomputable def xaf (i:Int) (s:List (List Int)):Int :=
 (s.getD ((IntKind.i64.wrap (i+(↑s.length:Int))).tmod (↑s.length:Int)).toNat []).getD 1 (0:Int)
def xa3 (i:Int) (s:List (List Int)):Prop :=
 ((((↑s.length:Int):Int)≠(0:Int))∧((inR ((IntKind.i64.wrap (i+(↑s.length:Int))).tmod (↑s.length:Int)) s)∧(inR ((IntKind.i64.wrap (i+(↑s.length:Int))).tmod (↑s.length:Int)) s)))
noncomputable def xbH (s:List (List Int)) (y0:List U):Int :=
 IntKind.i64.wrap ((s.getD (gi y0 0).toNat []).getD 0 (0:Int)*xaf (IntKind.i64.wrap (gi y0 0+(1:Int))) s) -
 IntKind.i64.wrap ((s.getD (gi y0 0).toNat []).getD 1 (0:Int)*xag (IntKind.i64.wrap (gi y0 0+(1:Int))) s)
noncomputable def xeJ (s:List (List Int)):List U :=
 [.i ((0:Int)),.i ((0:Int))]
noncomputable def xaS (s:List (List Int)) (y0:List U):Option (Nat×List U) :=
 (bif decide (gi y0 0<(↑s.length:Int)) then xaH (inR (gi y0 0) s) (xaH (inR (gi y0 0) s) (xaH (xa3 (IntKind.i64.wrap (gi y0 0+(1:Int))) s) (some (0,[.i (IntKind.i64.wrap (gi y0 0+(1:Int))),.i (IntKind.i64.wrap (gi y0 1+IntKind.i64.wrap ((xbH s y0))))])))) else some (2,[.i (gi y0 0),.i (gi y0 1)]))
noncomputable def xjz (s:List (List Int)):Nat×List U:=xa6 (xaS s) (xeJ s)
noncomputable def xd3 (s:List (List Int)):Int :=
 gi (xjz s).snd 1
def xdl (s:List (List Int)):Prop :=
 ((xa5 (xaS s) (xeJ s)))
noncomputable def xbM (s:List (List Int)) (y0:List U):List U :=
 [.i ((0:Int))]
noncomputable def xac (s:List (List Int)) (y0:List U) (y1:List U):Option (Nat×List U) :=
 (bif decide (gi y1 0<(↑s.length:Int)) then xaH (inR (gi y1 0) s) (xaH (inR (gi y1 0) s) (xaH (xa3 (IntKind.i64.wrap (gi y1 0+(1:Int))) s) ((bif decide (gi y1 0≤IntKind.i64.wrap (gi y0 0+(1:Int)))||gi y0 0==(0:Int)&&gi y1 0==IntKind.i64.wrap ((↑s.length:Int)-(1:Int)) then some (0,[.i (IntKind.i64.wrap (gi y1 0+(1:Int)))]) else (bif xfD ((s.getD (gi y0 0).toNat []).getD 0 (0:Int)) ((s.getD (gi y0 0).toNat []).getD 1 (0:Int))
 (xag (IntKind.i64.wrap (gi y0 0+(1:Int))) s) (xaf (IntKind.i64.wrap (gi y0 0+(1:Int))) s)
 ((s.getD (gi y1 0).toNat []).getD 0 (0:Int)) ((s.getD (gi y1 0).toNat []).getD 1 (0:Int)) (xag (IntKind.i64.wrap (gi y1 0+(1:Int))) s)
 (xaf (IntKind.i64.wrap (gi y1 0+(1:Int))) s) then some (2,[]) else some (0,[.i (IntKind.i64.wrap (gi y1 0+(1:Int)))])))))) else some (4,[.i (gi y1 0)]))
noncomputable def xdm (s:List (List Int)) (y0:List U):Nat×List U:=xa6 (xac s y0) (xbM s y0)
noncomputable def xet (s:List (List Int)):List U :=
 [.i ((0:Int))]
noncomputable def xaR (s:List (List Int)) (y0:List U):Option (Nat×List U) :=
 (bif decide (gi y0 0<(↑s.length:Int)) then xaH (inR (gi y0 0) s) (xaH (inR (gi y0 0) s) (xaH (xa3 (IntKind.i64.wrap (gi y0 0+(1:Int))) s) (xaH ((xa5 (xac s y0) (xbM s y0))) ((bif (xdm s y0).fst.beq 2 then some (1,[]) else some (0,[.i (IntKind.i64.wrap (gi y0 0+(1:Int)))])))))) else some (3,[.i (gi y0 0)]))
noncomputable def xiS (s:List (List Int)):Nat×List U:=xa6 (xaR s) (xet s)
noncomputable def xcM (s:List (List Int)):Bool :=
 bif (xiS s).fst.beq 1 then false else true
def xcW (s:List (List Int)):Prop :=
 ((xa5 (xaR s) (xet s)))
noncomputable def xgm (vu vx:Int) (s:List (List Int)) (y0:List U):Int :=
 xfC (xag (IntKind.i64.wrap (gi y0 0+(1:Int))) s) (xaf (IntKind.i64.wrap (gi y0 0+(1:Int))) s)
 ((s.getD (gi y0 0).toNat []).getD 0 (0:Int)) ((s.getD (gi y0 0).toNat []).getD 1 (0:Int)) vu vx
noncomputable def xgl (vu vx:Int) (s:List (List Int)) (y0:List U):Int :=
 xfC ((s.getD (gi y0 0).toNat []).getD 0 (0:Int)) ((s.getD (gi y0 0).toNat []).getD 1 (0:Int))
 (xag (IntKind.i64.wrap (gi y0 0+(1:Int))) s) (xaf (IntKind.i64.wrap (gi y0 0+(1:Int))) s) vu vx
noncomputable def xgu (vu vx:Int) (s:List (List Int)):List U :=
 [.i ((0:Int)),.b (false)]
noncomputable def xat (vu vx:Int) (s:List (List Int)) (y0:List U):Option (Nat×List U) :=
 (bif decide (gi y0 0<(↑s.length:Int)) then xaH (inR (gi y0 0) s) (xaH (inR (gi y0 0) s) (xaH (xa3 (IntKind.i64.wrap (gi y0 0+(1:Int))) s) ((bif xbr vu vx ((s.getD (gi y0 0).toNat []).getD 0 (0:Int)) ((s.getD (gi y0 0).toNat []).getD 1 (0:Int))
 (xag (IntKind.i64.wrap (gi y0 0+(1:Int))) s) (xaf (IntKind.i64.wrap (gi y0 0+(1:Int))) s) then some (1,[.b (gb y0 1)]) else (bif decide ((s.getD (gi y0 0).toNat []).getD 1 (0:Int)>xaf (IntKind.i64.wrap (gi y0 0+(1:Int))) s) then (bif decide (xaf (IntKind.i64.wrap (gi y0 0+(1:Int))) s≤vx)&&decide (vx<(s.getD (gi y0 0).toNat []).getD 1 (0:Int)) &&
 decide ((xgm vu vx s y0)>(0:Int)) then some (0,[.i (IntKind.i64.wrap (gi y0 0+(1:Int))),.b (!gb y0 1)]) else some (0,[.i (IntKind.i64.wrap (gi y0 0+(1:Int))),.b (gb y0 1)])) else (bif decide ((s.getD (gi y0 0).toNat []).getD 1 (0:Int)≤vx)&&decide (vx<xaf (IntKind.i64.wrap (gi y0 0+(1:Int))) s) &&
 decide ((xgl vu vx s y0)>(0:Int)) then some (0,[.i (IntKind.i64.wrap (gi y0 0+(1:Int))),.b (!gb y0 1)]) else some (0,[.i (IntKind.i64.wrap (gi y0 0+(1:Int))),.b (gb y0 1)]))))))) else some (6,[.i (gi y0 0),.b (gb y0 1)]))
noncomputable def xgn (vu vx:Int) (s:List (List Int)):Nat×List U:=xa6 (xat vu vx s) (xgu vu vx s)
noncomputable def xd4 (vu vx:Int) (s:List (List Int)):Int :=
 bif (xgn vu vx s).fst.beq 1 then (0:Int) else bif gb (xgn vu vx s).snd 1 then (1:Int) else (-1:Int)
def xdn (vu vx:Int) (s:List (List Int)):Prop :=
 ((xa5 (xat vu vx s) (xgu vu vx s)))
noncomputable def xkb (p:List (List Int)):List U :=
 [.i ((0:Int)),.i ((0:Int))]
noncomputable def xba (p:List (List Int)) (y0:List U):Option (Nat×List U) :=
 (bif decide (gi y0 1<(↑p.length:Int)) then xaH (inR (gi y0 1) p) (xaH (inR (gi y0 1) p) ((bif !xaG ((p.getD (gi y0 1).toNat []).getD 0 (0:Int)) ((p.getD (gi y0 1).toNat []).getD 1 (0:Int)) then some (1,[.i (gi y0 1)]) else some (0,[.i (gi y0 0),.i (IntKind.i64.wrap (gi y0 1+(1:Int)))])))) else some (3,[.i (gi y0 0),.i (gi y0 1)]))
noncomputable def xgJ (p:List (List Int)):Nat×List U:=xa6 (xba p) (xkb p)
noncomputable def xd5 (p:List (List Int)) (y1:List U):Int :=
 xmo ((p.getD (Int.toNat (0:Int)) []).getD 0 (0:Int)) ((p.getD (Int.toNat (0:Int)) []).getD 1 (0:Int)) ((p.getD (gi y1 1).toNat []).getD 0 (0:Int))
 ((p.getD (gi y1 1).toNat []).getD 1 (0:Int))
noncomputable def xdr (p:List (List Int)) (y1:List U):Int :=
 xfC (xag (IntKind.i64.wrap (gi y1 1-(1:Int))) p) (xaf (IntKind.i64.wrap (gi y1 1-(1:Int))) p)
 ((p.getD (gi y1 1).toNat []).getD 0 (0:Int)) ((p.getD (gi y1 1).toNat []).getD 1 (0:Int)) (xag (IntKind.i64.wrap (gi y1 1+(1:Int))) p)
 (xaf (IntKind.i64.wrap (gi y1 1+(1:Int))) p)
noncomputable def xka (p:List (List Int)):List U :=
 [.b (false),.i ((0:Int))]
noncomputable def xa9 (p:List (List Int)) (y1:List U):Option (Nat×List U) :=
 (bif decide (gi y1 1<(↑p.length:Int)) then xaH ((decide (gi y1 1>(0:Int))=true)→(inR (0:Int) p)) (xaH ((decide (gi y1 1>(0:Int))=true)→(inR (0:Int) p)) (xaH ((decide (gi y1 1>(0:Int))=true)→(inR (gi y1 1) p)) (xaH ((decide (gi y1 1>(0:Int))=true)→(inR (gi y1 1) p)) (xaH (((decide (gi y1 1>(0:Int))&&decide ((xd5 p y1)≥(0:Int)))=false)→(xa3 (IntKind.i64.wrap (gi y1 1-(1:Int))) p)) (xaH (((decide (gi y1 1>(0:Int))&&decide ((xd5 p y1)≥(0:Int)))=false)→(inR (gi y1 1) p)) (xaH (((decide (gi y1 1>(0:Int))&&decide ((xd5 p y1)≥(0:Int)))=false)→(inR (gi y1 1) p)) (xaH (((decide (gi y1 1>(0:Int))&&decide ((xd5 p y1)≥(0:Int)))=false)→(xa3 (IntKind.i64.wrap (gi y1 1+(1:Int))) p)) ((bif decide (gi y1 1>(0:Int))&&decide ((xd5 p y1)≥(0:Int))||(xdr p y1)==(0:Int) then some (1,[]) else some (0,[.b (gb y1 0),.i (IntKind.i64.wrap (gi y1 1+(1:Int)))])))))))))) else some (3,[.b (gb y1 0),.i (gi y1 1)]))
noncomputable def xlp (p:List (List Int)):Nat×List U:=xa6 (xa9 p) (xka p)
noncomputable def xdy (p:List (List Int)):Bool :=
 bif
  decide ((↑p.length:Int)<(3:Int))||decide ((↑p.length:Int)>(24:Int)) ||
   decide ((bif (xgJ p).fst.beq 1 then gi (xgJ p).snd 0 else (-1:Int))≥(0:Int)) then
 false
else bif (xlp p).fst.beq 1 then false else xcM p&&decide (xd3 p>(0:Int))
def xfk (p:List (List Int)):Prop :=
 ((((decide ((↑p.length:Int)<(3:Int))||decide ((↑p.length:Int)>(24:Int)))=false)→((xa5 (xba p) (xkb p))))∧(((decide ((↑p.length:Int)<(3:Int))||decide ((↑p.length:Int)>(24:Int)) ||
  decide ((bif (xgJ p).fst.beq 1 then gi (xgJ p).snd 0 else (-1:Int))≥(0:Int))) =
 false)→(((xa5 (xa9 p) (xka p)))∧(((xlp p).fst.beq 1=false)→((xcW p)∧((xcM p=true)→(xdl p)))))))
end Go.Proofs.YthfjhbbpdhjklaaGreat
set_option maxRecDepth 100000
set_option linter.unusedVariables false
namespace Go.Proofs.YthfjhbbpdhjklaaGreat
open Go Go.Sy
theorem xmn (i:Int) (s:List (List Int)):xai Tryz.prog 1 (xaP Tryz.prog K93 xbs 9 186 [.sl 0,.int .i64 i] ⟨[⟨0,1,false,.row 33 [.int .i64,.int .i64] s⟩],1⟩)=some ⟨some (xa3 i s),[],0,[],.agg [.int .i64 (xag i s),.int .i64 (xaf i s)]⟩:=by kernel_rfl
noncomputable def xio:List U→Option Eff
 | [.i i,.r s]=>some ⟨some (xa3 i s),[],0,[],.agg [.int .i64 (xag i s),.int .i64 (xaf i s)]⟩
 | _=>Option.none
noncomputable def K94:Con:=ext Tryz.prog K93 186 [.sl 0,.int .i64 0] [⟨0,0,false,.row 33 [.int .i64,.int .i64] []⟩] xio
theorem xGy:xaT Tryz.prog K94:=xah xav xGz (n:=9) rfl rfl fun us x h=>by
 unfold xio at h
 split at h
 ·cases h; exact ⟨some (xa3 _ _),xmn _ _,fun h=>h⟩
 ·cases h
theorem xno (s:List (List Int)):xai Tryz.prog 1 (xaP Tryz.prog K94 xbs 9 188 [.sl 0] ⟨[⟨0,1,false,.row 33 [.int .i64,.int .i64] s⟩],1⟩)=some ⟨some (xdl s),[],0,[],.int .i64 (xd3 s)⟩:=by kernel_rfl
noncomputable def xiR:List U→Option Eff
 | [.r s]=>some ⟨some (xdl s),[],0,[],.int .i64 (xd3 s)⟩
 | _=>Option.none
noncomputable def K95:Con:=ext Tryz.prog K94 188 [.sl 0] [⟨0,0,false,.row 33 [.int .i64,.int .i64] []⟩] xiR
theorem xGx:xaT Tryz.prog K95:=xah xav xGy (n:=9) rfl rfl fun us x h=>by
 unfold xiR at h
 split at h
 ·cases h; exact ⟨some (xdl _),xno _,fun h=>h⟩
 ·cases h
theorem xmm (s:List (List Int)):xai Tryz.prog 1 (xaP Tryz.prog K95 xbs 9 187 [.sl 0] ⟨[⟨0,1,false,.row 33 [.int .i64,.int .i64] s⟩],1⟩)=some ⟨some (xcW s),[],0,[],.bool (xcM s)⟩:=by kernel_rfl
noncomputable def xin:List U→Option Eff
 | [.r s]=>some ⟨some (xcW s),[],0,[],.bool (xcM s)⟩
 | _=>Option.none
noncomputable def K96:Con:=ext Tryz.prog K95 187 [.sl 0] [⟨0,0,false,.row 33 [.int .i64,.int .i64] []⟩] xin
theorem xGw:xaT Tryz.prog K96:=xah xav xGx (n:=9) rfl rfl fun us x h=>by
 unfold xin at h
 split at h
 ·cases h; exact ⟨some (xcW _),xmm _,fun h=>h⟩
 ·cases h
theorem xnp (vu vx:Int) (s:List (List Int)):xai Tryz.prog 1 (xaP Tryz.prog K96 xbs 9 294 [.sl 0,.agg [.int .i64 vu,.int .i64 vx]] ⟨[⟨0,1,false,.row 33 [.int .i64,.int .i64] s⟩],1⟩)=some ⟨some (xdn vu vx s),[],0,[],.int .i64 (xd4 vu vx s)⟩:=by kernel_rfl
noncomputable def xiT:List U→Option Eff
 | [.i vu,.i vx,.r s]=>some ⟨some (xdn vu vx s),[],0,[],.int .i64 (xd4 vu vx s)⟩
 | _=>Option.none
noncomputable def K97:Con:=ext Tryz.prog K96 294 [.sl 0,.agg [.int .i64 0,.int .i64 0]] [⟨0,0,false,.row 33 [.int .i64,.int .i64] []⟩] xiT
theorem xGv:xaT Tryz.prog K97:=xah xav xGw (n:=9) rfl rfl fun us x h=>by
 unfold xiT at h
 split at h
 ·cases h; exact ⟨some (xdn _ _ _),xnp _ _ _,fun h=>h⟩
 ·cases h
theorem xux (p:List (List Int)):xai Tryz.prog 1 (xaP Tryz.prog K97 xbs 9 134 [.sl 0] ⟨[⟨0,1,false,.row 33 [.int .i64,.int .i64] p⟩],1⟩)=some ⟨some (xfk p),[],0,[],.bool (xdy p)⟩:=by kernel_rfl
noncomputable def xnC:List U→Option Eff
 | [.r p]=>some ⟨some (xfk p),[],0,[],.bool (xdy p)⟩
 | _=>Option.none
noncomputable def K98:Con:=ext Tryz.prog K97 134 [.sl 0] [⟨0,0,false,.row 33 [.int .i64,.int .i64] []⟩] xnC
theorem xGu:xaT Tryz.prog K98:=xah xav xGv (n:=9) rfl rfl fun us x h=>by
 unfold xnC at h
 split at h
 ·cases h; exact ⟨some (xfk _),xux _,fun h=>h⟩
 ·cases h
end Go.Proofs.YthfjhbbpdhjklaaGreat
set_option maxRecDepth 100000
set_option linter.unusedVariables false
namespace Go.Proofs.YthfjhbbpdhjklaaGreat
open Go Go.Sy
noncomputable def xmq (vu vx:Int) (p:List (List Int)):Int :=
 bif !xaG vu vx||!xdy p then (0:Int) else xd4 vu vx p
noncomputable def xmp (vu vx:Int) (p:List (List Int)):Int :=
 bif !xaG vu vx||!xdy p then (1:Int) else (0:Int)
def xjB (vu vx:Int) (p:List (List Int)):Prop :=
 ((((!xaG vu vx)=false)→(xfk p))∧(((!xaG vu vx||!xdy p)=false)→(xdn vu vx p)))
end Go.Proofs.YthfjhbbpdhjklaaGreat
set_option maxRecDepth 100000
set_option linter.unusedVariables false
namespace Go.Proofs.YthfjhbbpdhjklaaGreat
open Go Go.Sy
theorem xyL (vu vx:Int) (p:List (List Int)):xai Tryz.prog 1 (xaP Tryz.prog K98 xbs 9 293 [.agg [.int .i64 vu,.int .i64 vx],.sl 0] ⟨[⟨0,1,false,.row 33 [.int .i64,.int .i64] p⟩],1⟩)=some ⟨some (xjB vu vx p),[],0,[],.tup [.int .i64 (xmq vu vx p),.int .i64 (xmp vu vx p)]⟩:=by kernel_rfl
noncomputable def xrK:List U→Option Eff
 | [.i vu,.i vx,.r p]=>some ⟨some (xjB vu vx p),[],0,[],.tup [.int .i64 (xmq vu vx p),.int .i64 (xmp vu vx p)]⟩
 | _=>Option.none
noncomputable def K99:Con:=ext Tryz.prog K98 293 [.agg [.int .i64 0,.int .i64 0],.sl 0] [⟨0,0,false,.row 33 [.int .i64,.int .i64] []⟩] xrK
theorem xGt:xaT Tryz.prog K99:=xah xav xGu (n:=9) rfl rfl fun us x h=>by
 unfold xrK at h
 split at h
 ·cases h; exact ⟨some (xjB _ _ _),xyL _ _ _,fun h=>h⟩
 ·cases h
end Go.Proofs.YthfjhbbpdhjklaaGreat
set_option linter.unusedVariables false
set_option maxRecDepth 100000
namespace Go.Proofs.YthfjhbbpdhjklaaGreat
open Go Go.Sy Go.Proofs Go.RowKit
noncomputable def K100:Con:=ext Tryz.prog K99 61 [.sl 0] [xBJ] xo1
theorem xE7:xaT Tryz.prog K100:=xAY xGt rfl rfl fun us x h=>by
 unfold xo1 at h
 split at h
 ·cases h
  exact ⟨xDl,⟨rfl,fun o ho=>(by rw [List.mem_singleton.1 ho]; exact ⟨Nat.le_refl _,by show 1<1+1; omega⟩),by simp,fun o ho=>(by rw [List.mem_singleton.1 ho]; rfl),(by show 1<1+1; omega),fun o ho=>(by rw [List.mem_singleton.1 ho]; exact Nat.le_refl _)⟩,fun hp E2 w hH=>xAC hp hH⟩
 ·cases h
end Go.Proofs.YthfjhbbpdhjklaaGreat
set_option maxRecDepth 100000
set_option linter.unusedVariables false
namespace Go.Proofs.YthfjhbbpdhjklaaGreat
open Go Go.Sy
noncomputable def xc9 (ua:List (List Int)):List U :=
 [.b (false),.i (IntKind.i64.wrap ((↑ua.length:Int)-(1:Int)))]
noncomputable def xc8 (ua:List (List Int)) (y0:List U):Option (Nat×List U) :=
 (bif decide (gi y0 1>(0:Int)) then xaH (inR (gi y0 1) ua) (xaH (inR (gi y0 1) ua) (xaH (inR (IntKind.i64.wrap (gi y0 1-(1:Int))) ua) (xaH (inR (IntKind.i64.wrap (gi y0 1-(1:Int))) ua) ((bif decide
 (xaI ((ua.getD (gi y0 1).toNat []).getD 3 (0:Int)) ((ua.getD (IntKind.i64.wrap (gi y0 1-(1:Int))).toNat []).getD 3 (0:Int))<(0:Int)) then some (1,[]) else some (0,[.b (gb y0 0),.i (IntKind.i64.wrap (gi y0 1-(1:Int)))])))))) else some (3,[.b (gb y0 0),.i (gi y0 1)]))
noncomputable def xly (ua:List (List Int)):Nat×List U:=xa6 (xc8 ua) (xc9 ua)
noncomputable def xfw (ua:List (List Int)):List U :=
 [.i ((0:Int)),.i ((0:Int))]
noncomputable def xb5 (ua:List (List Int)) (y1:List U):Option (Nat×List U) :=
 (bif decide (gi y1 1<(↑ua.length:Int)) then xaH (inR (gi y1 1) ua) (xaH (inR (gi y1 1) ua) ((bif !xeX ((ua.getD (gi y1 1).toNat []).getD 0 (0:Int)) ((ua.getD (gi y1 1).toNat []).getD 1 (0:Int))
  ((ua.getD (gi y1 1).toNat []).getD 2 (0:Int)) ((ua.getD (gi y1 1).toNat []).getD 3 (0:Int))
  ((ua.getD (gi y1 1).toNat []).getD 4 (0:Int)) ((ua.getD (gi y1 1).toNat []).getD 5 (0:Int))
  ((ua.getD (gi y1 1).toNat []).getD 6 (0:Int)) ((ua.getD (gi y1 1).toNat []).getD 7 (0:Int)) then some (1,[.i (gi y1 1)]) else some (0,[.i (gi y1 0),.i (IntKind.i64.wrap (gi y1 1+(1:Int)))])))) else some (3,[.i (gi y1 0),.i (gi y1 1)]))
noncomputable def xi4 (ua:List (List Int)):Nat×List U:=xa6 (xb5 ua) (xfw ua)
noncomputable def xbS (ua:List (List Int)):Bool :=
 (decide ((↑ua.length:Int)≤(200:Int))&&bif (xly ua).fst.beq 1 then false else true) &&
 !decide ((bif (xi4 ua).fst.beq 1 then gi (xi4 ua).snd 0 else (-1:Int))≥(0:Int))
def xga (ua:List (List Int)):Prop :=
 (((decide ((↑ua.length:Int)≤(200:Int))=true)→((xa5 (xc8 ua) (xc9 ua))))∧(((decide ((↑ua.length:Int)≤(200:Int))&&bif (xly ua).fst.beq 1 then false else true)=true)→((xa5 (xb5 ua) (xfw ua)))))
noncomputable def xx6 (vr vt:Int) (ua:List (List Int)) (y0:List U):List Int :=
 [(ua.getD (gi y0 2).toNat []).getD 9 (0:Int),(ua.getD (gi y0 2).toNat []).getD 10 (0:Int),(ua.getD (gi y0 2).toNat []).getD 11 (0:Int)]
noncomputable def xx5 (vr vt:Int) (ua:List (List Int)) (y0:List U):List Int :=
 (bif (ua.getD (gi y0 2).toNat []).getD 7 (0:Int) !=(0:Int) then (1:Int) else (0:Int)) ::
 (ua.getD (gi y0 2).toNat []).getD 8 (0:Int)::(xx6 vr vt ua y0)
noncomputable def xx4 (vr vt:Int) (ua:List (List Int)) (y0:List U):List Int :=
 (ua.getD (gi y0 2).toNat []).getD 4 (0:Int) ::
 (ua.getD (gi y0 2).toNat []).getD 5 (0:Int)::(ua.getD (gi y0 2).toNat []).getD 6 (0:Int)::(xx5 vr vt ua y0)
noncomputable def xx3 (vr vt:Int) (ua:List (List Int)) (y0:List U):List Int :=
 (bif (ua.getD (gi y0 2).toNat []).getD 1 (0:Int) !=(0:Int) then (1:Int) else (0:Int)) ::
 (ua.getD (gi y0 2).toNat []).getD 2 (0:Int)::(ua.getD (gi y0 2).toNat []).getD 3 (0:Int)::(xx4 vr vt ua y0)
noncomputable def xqB (vr vt:Int) (ua:List (List Int)) (y0:List U):List (List Int) :=
 xdU 1 [(ua.getD (gi y0 2).toNat []).getD 0 (0:Int)] ((ua.getD (gi y0 2).toNat []).getD 0 (0:Int)::(xx3 vr vt ua y0)) (gr y0 3)
noncomputable def xk4 (vr vt:Int) (ua:List (List Int)):List U :=
 [.b (false),.i ((0:Int)),.i ((0:Int)),.r ([])]
noncomputable def xeO (vr vt:Int) (ua:List (List Int)) (y0:List U):Option (Nat×List U) :=
 (bif decide (gi y0 2<(↑ua.length:Int)) then xaH (inR (gi y0 2) ua) (xaH (inR (gi y0 2) ua) ((bif !xgA ((ua.getD (gi y0 2).toNat []).getD 0 (0:Int)) ((ua.getD (gi y0 2).toNat []).getD 1 (0:Int) !=(0:Int))
   ((ua.getD (gi y0 2).toNat []).getD 2 (0:Int)) ((ua.getD (gi y0 2).toNat []).getD 3 (0:Int))
   ((ua.getD (gi y0 2).toNat []).getD 4 (0:Int)) ((ua.getD (gi y0 2).toNat []).getD 5 (0:Int))
   ((ua.getD (gi y0 2).toNat []).getD 6 (0:Int)) ((ua.getD (gi y0 2).toNat []).getD 7 (0:Int) !=(0:Int))
   ((ua.getD (gi y0 2).toNat []).getD 8 (0:Int)) ((ua.getD (gi y0 2).toNat []).getD 9 (0:Int))
   ((ua.getD (gi y0 2).toNat []).getD 10 (0:Int)) ((ua.getD (gi y0 2).toNat []).getD 11 (0:Int)) ||
 decide ((ua.getD (gi y0 2).toNat []).getD 0 (0:Int)≤gi y0 1) then some (1,[.r (gr y0 3)]) else some (0,[.b (gb y0 0),.i ((ua.getD (gi y0 2).toNat []).getD 0 (0:Int)),.i (IntKind.i64.wrap (gi y0 2+(1:Int))),.r ((xqB vr vt ua y0))])))) else some (3,[.b (gb y0 0),.i (gi y0 1),.i (gi y0 2),.r (gr y0 3)]))
noncomputable def xiy (vr vt:Int) (ua:List (List Int)):Nat×List U:=xa6 (xeO vr vt ua) (xk4 vr vt ua)
noncomputable def xk3 (vr vt:Int) (ua:List (List Int)):List U :=
 [.i ((0:Int)),.r ([])]
noncomputable def xeN (vr vt:Int) (ua:List (List Int)) (y1:List U):Option (Nat×List U) :=
 (bif decide (gi y1 0<(↑ua.length:Int)) then xaH (inR (gi y1 0) ua) (xaH (inR (gi y1 0) ua) ((bif xcg vr vt ((ua.getD (gi y1 0).toNat []).getD 2 (0:Int)) ((ua.getD (gi y1 0).toNat []).getD 3 (0:Int))
  ((ua.getD (gi y1 0).toNat []).getD 4 (0:Int)) ((ua.getD (gi y1 0).toNat []).getD 5 (0:Int)) &&
 (ua.getD (gi y1 0).toNat []).getD 1 (0:Int) !=(0:Int) then xaH (xdo 8 ((gr y1 1).length+[[(ua.getD (gi y1 0).toNat []).getD 0 (0:Int)]].length)) (some (0,[.i (IntKind.i64.wrap (gi y1 0+(1:Int))),.r (gr y1 1++[[(ua.getD (gi y1 0).toNat []).getD 0 (0:Int)]])])) else some (0,[.i (IntKind.i64.wrap (gi y1 0+(1:Int))),.r (gr y1 1)])))) else some (3,[.i (gi y1 0),.r (gr y1 1)]))
noncomputable def xmP (vr vt:Int) (ua:List (List Int)):Nat×List U:=xa6 (xeN vr vt ua) (xk3 vr vt ua)
noncomputable def xcp (vr vt:Int) (ua:List (List Int)):List (List Int) :=
 bif (xiy vr vt ua).fst.beq 1 then [] else bif !xab vr vr vt vt then [] else gr (xmP vr vt ua).snd 1
noncomputable def xcP (vr vt:Int) (ua:List (List Int)):Int :=
 bif (xiy vr vt ua).fst.beq 1 then (1:Int) else bif !xab vr vr vt vt then (1:Int) else (0:Int)
def xcR (vr vt:Int) (ua:List (List Int)):Prop :=
 (((xa5 (xeO vr vt ua) (xk4 vr vt ua)))∧(((xiy vr vt ua).fst.beq 1=false)→(((!xab vr vr vt vt)=false)→((xa5 (xeN vr vt ua) (xk3 vr vt ua))))))
noncomputable def xdH (ub:Int) (ua:List (List Int)):List Int :=
 [(0:Int),(0:Int),(0:Int),(0:Int),(0:Int),bif false then (1:Int) else (0:Int),(0:Int),(0:Int),(0:Int),(0:Int)]
noncomputable def xaF (ub:Int) (ua:List (List Int)) (y0:List U):Int :=
 ((xaO 1 [(ua.getD (gi y0 0).toNat []).getD 1 (0:Int)] (gr y0 1)).getD ((0:Int)::(bif false then (1:Int) else (0:Int))::(xdH ub ua))).getD
 0 (0:Int)
noncomputable def xaE (ub:Int) (ua:List (List Int)) (y0:List U):Int :=
 ((xaO 1 [(ua.getD (gi y0 0).toNat []).getD 1 (0:Int)] (gr y0 1)).getD ((0:Int)::(bif false then (1:Int) else (0:Int))::(xdH ub ua))).getD
 1 (0:Int)
noncomputable def xaD (ub:Int) (ua:List (List Int)) (y0:List U):Int :=
 ((xaO 1 [(ua.getD (gi y0 0).toNat []).getD 1 (0:Int)] (gr y0 1)).getD ((0:Int)::(bif false then (1:Int) else (0:Int))::(xdH ub ua))).getD
 2 (0:Int)
noncomputable def xaC (ub:Int) (ua:List (List Int)) (y0:List U):Int :=
 ((xaO 1 [(ua.getD (gi y0 0).toNat []).getD 1 (0:Int)] (gr y0 1)).getD ((0:Int)::(bif false then (1:Int) else (0:Int))::(xdH ub ua))).getD
 3 (0:Int)
noncomputable def xaB (ub:Int) (ua:List (List Int)) (y0:List U):Int :=
 ((xaO 1 [(ua.getD (gi y0 0).toNat []).getD 1 (0:Int)] (gr y0 1)).getD ((0:Int)::(bif false then (1:Int) else (0:Int))::(xdH ub ua))).getD
 4 (0:Int)
noncomputable def xaA (ub:Int) (ua:List (List Int)) (y0:List U):Int :=
 ((xaO 1 [(ua.getD (gi y0 0).toNat []).getD 1 (0:Int)] (gr y0 1)).getD ((0:Int)::(bif false then (1:Int) else (0:Int))::(xdH ub ua))).getD
 5 (0:Int)
noncomputable def xaz (ub:Int) (ua:List (List Int)) (y0:List U):Int :=
 ((xaO 1 [(ua.getD (gi y0 0).toNat []).getD 1 (0:Int)] (gr y0 1)).getD ((0:Int)::(bif false then (1:Int) else (0:Int))::(xdH ub ua))).getD
 6 (0:Int)
noncomputable def xay (ub:Int) (ua:List (List Int)) (y0:List U):Int :=
 ((xaO 1 [(ua.getD (gi y0 0).toNat []).getD 1 (0:Int)] (gr y0 1)).getD ((0:Int)::(bif false then (1:Int) else (0:Int))::(xdH ub ua))).getD
 7 (0:Int)
noncomputable def xax (ub:Int) (ua:List (List Int)) (y0:List U):Int :=
 ((xaO 1 [(ua.getD (gi y0 0).toNat []).getD 1 (0:Int)] (gr y0 1)).getD ((0:Int)::(bif false then (1:Int) else (0:Int))::(xdH ub ua))).getD
 8 (0:Int)
noncomputable def xas (ub:Int) (ua:List (List Int)) (y0:List U):Int :=
 ((xaO 1 [(ua.getD (gi y0 0).toNat []).getD 1 (0:Int)] (gr y0 1)).getD ((0:Int)::(bif false then (1:Int) else (0:Int))::(xdH ub ua))).getD
 9 (0:Int)
noncomputable def xar (ub:Int) (ua:List (List Int)) (y0:List U):Int :=
 ((xaO 1 [(ua.getD (gi y0 0).toNat []).getD 1 (0:Int)] (gr y0 1)).getD ((0:Int)::(bif false then (1:Int) else (0:Int))::(xdH ub ua))).getD
 10 (0:Int)
noncomputable def xaq (ub:Int) (ua:List (List Int)) (y0:List U):Int :=
 ((xaO 1 [(ua.getD (gi y0 0).toNat []).getD 1 (0:Int)] (gr y0 1)).getD ((0:Int)::(bif false then (1:Int) else (0:Int))::(xdH ub ua))).getD
 11 (0:Int)
noncomputable def xtC (ub:Int) (ua:List (List Int)) (y0:List U):Int :=
 xg2 ((xaF ub ua y0)) ((xaE ub ua y0) !=(0:Int)) ((xaD ub ua y0)) ((xaC ub ua y0)) ((xaB ub ua y0)) ((xaA ub ua y0)) ((xaz ub ua y0))
 ((xay ub ua y0) !=(0:Int)) ((xax ub ua y0)) ((xas ub ua y0)) ((xar ub ua y0)) ((xaq ub ua y0)) ((ua.getD (gi y0 0).toNat []).getD 0 (0:Int))
 ((ua.getD (gi y0 0).toNat []).getD 1 (0:Int)) ((ua.getD (gi y0 0).toNat []).getD 2 (0:Int)) ((ua.getD (gi y0 0).toNat []).getD 3 (0:Int))
 ((ua.getD (gi y0 0).toNat []).getD 4 (0:Int)) ((ua.getD (gi y0 0).toNat []).getD 5 (0:Int)) ((ua.getD (gi y0 0).toNat []).getD 6 (0:Int))
 ((ua.getD (gi y0 0).toNat []).getD 7 (0:Int))
noncomputable def xtB (ub:Int) (ua:List (List Int)) (y0:List U):Int :=
 xgY ((xaF ub ua y0)) ((xaE ub ua y0) !=(0:Int)) ((xaD ub ua y0)) ((xaC ub ua y0)) ((xaB ub ua y0)) ((xaA ub ua y0)) ((xaz ub ua y0))
 ((xay ub ua y0) !=(0:Int)) ((xax ub ua y0)) ((xas ub ua y0)) ((xar ub ua y0)) ((xaq ub ua y0)) ((ua.getD (gi y0 0).toNat []).getD 0 (0:Int))
 ((ua.getD (gi y0 0).toNat []).getD 1 (0:Int)) ((ua.getD (gi y0 0).toNat []).getD 2 (0:Int)) ((ua.getD (gi y0 0).toNat []).getD 3 (0:Int))
 ((ua.getD (gi y0 0).toNat []).getD 4 (0:Int)) ((ua.getD (gi y0 0).toNat []).getD 5 (0:Int)) ((ua.getD (gi y0 0).toNat []).getD 6 (0:Int))
 ((ua.getD (gi y0 0).toNat []).getD 7 (0:Int))
noncomputable def xtA (ub:Int) (ua:List (List Int)) (y0:List U):Int :=
 xgU ((xaF ub ua y0)) ((xaE ub ua y0) !=(0:Int)) ((xaD ub ua y0)) ((xaC ub ua y0)) ((xaB ub ua y0)) ((xaA ub ua y0)) ((xaz ub ua y0))
 ((xay ub ua y0) !=(0:Int)) ((xax ub ua y0)) ((xas ub ua y0)) ((xar ub ua y0)) ((xaq ub ua y0)) ((ua.getD (gi y0 0).toNat []).getD 0 (0:Int))
 ((ua.getD (gi y0 0).toNat []).getD 1 (0:Int)) ((ua.getD (gi y0 0).toNat []).getD 2 (0:Int)) ((ua.getD (gi y0 0).toNat []).getD 3 (0:Int))
 ((ua.getD (gi y0 0).toNat []).getD 4 (0:Int)) ((ua.getD (gi y0 0).toNat []).getD 5 (0:Int)) ((ua.getD (gi y0 0).toNat []).getD 6 (0:Int))
 ((ua.getD (gi y0 0).toNat []).getD 7 (0:Int))
noncomputable def xtz (ub:Int) (ua:List (List Int)) (y0:List U):Int :=
 xgQ ((xaF ub ua y0)) ((xaE ub ua y0) !=(0:Int)) ((xaD ub ua y0)) ((xaC ub ua y0)) ((xaB ub ua y0)) ((xaA ub ua y0)) ((xaz ub ua y0))
 ((xay ub ua y0) !=(0:Int)) ((xax ub ua y0)) ((xas ub ua y0)) ((xar ub ua y0)) ((xaq ub ua y0)) ((ua.getD (gi y0 0).toNat []).getD 0 (0:Int))
 ((ua.getD (gi y0 0).toNat []).getD 1 (0:Int)) ((ua.getD (gi y0 0).toNat []).getD 2 (0:Int)) ((ua.getD (gi y0 0).toNat []).getD 3 (0:Int))
 ((ua.getD (gi y0 0).toNat []).getD 4 (0:Int)) ((ua.getD (gi y0 0).toNat []).getD 5 (0:Int)) ((ua.getD (gi y0 0).toNat []).getD 6 (0:Int))
 ((ua.getD (gi y0 0).toNat []).getD 7 (0:Int))
noncomputable def xty (ub:Int) (ua:List (List Int)) (y0:List U):Int :=
 bif decide ((ua.getD (gi y0 0).toNat []).getD 0 (0:Int)=(3:Int)) then (xtA ub ua y0) else (xtz ub ua y0)
noncomputable def xtx (ub:Int) (ua:List (List Int)) (y0:List U):Int :=
 bif decide ((ua.getD (gi y0 0).toNat []).getD 0 (0:Int)=(2:Int)) then (xtB ub ua y0) else (xty ub ua y0)
noncomputable def xtw (ub:Int) (ua:List (List Int)) (y0:List U):Int :=
 bif decide ((ua.getD (gi y0 0).toNat []).getD 0 (0:Int)=(1:Int)) then (xtC ub ua y0) else (xtx ub ua y0)
noncomputable def xtv (ub:Int) (ua:List (List Int)) (y0:List U):Int :=
 xig ((xaF ub ua y0)) ((xaE ub ua y0) !=(0:Int)) ((xaD ub ua y0)) ((xaC ub ua y0)) ((xaB ub ua y0)) ((xaA ub ua y0)) ((xaz ub ua y0))
 ((xay ub ua y0) !=(0:Int)) ((xax ub ua y0)) ((xas ub ua y0)) ((xar ub ua y0)) ((xaq ub ua y0)) ((ua.getD (gi y0 0).toNat []).getD 0 (0:Int))
 ((ua.getD (gi y0 0).toNat []).getD 1 (0:Int)) ((ua.getD (gi y0 0).toNat []).getD 2 (0:Int)) ((ua.getD (gi y0 0).toNat []).getD 3 (0:Int))
 ((ua.getD (gi y0 0).toNat []).getD 4 (0:Int)) ((ua.getD (gi y0 0).toNat []).getD 5 (0:Int)) ((ua.getD (gi y0 0).toNat []).getD 6 (0:Int))
 ((ua.getD (gi y0 0).toNat []).getD 7 (0:Int))
noncomputable def xtu (ub:Int) (ua:List (List Int)) (y0:List U):Int :=
 xh6 ((xaF ub ua y0)) ((xaE ub ua y0) !=(0:Int)) ((xaD ub ua y0)) ((xaC ub ua y0)) ((xaB ub ua y0)) ((xaA ub ua y0)) ((xaz ub ua y0))
 ((xay ub ua y0) !=(0:Int)) ((xax ub ua y0)) ((xas ub ua y0)) ((xar ub ua y0)) ((xaq ub ua y0)) ((ua.getD (gi y0 0).toNat []).getD 0 (0:Int))
 ((ua.getD (gi y0 0).toNat []).getD 1 (0:Int)) ((ua.getD (gi y0 0).toNat []).getD 2 (0:Int)) ((ua.getD (gi y0 0).toNat []).getD 3 (0:Int))
 ((ua.getD (gi y0 0).toNat []).getD 4 (0:Int)) ((ua.getD (gi y0 0).toNat []).getD 5 (0:Int)) ((ua.getD (gi y0 0).toNat []).getD 6 (0:Int))
 ((ua.getD (gi y0 0).toNat []).getD 7 (0:Int))
noncomputable def xtt (ub:Int) (ua:List (List Int)) (y0:List U):Int :=
 xhW ((xaF ub ua y0)) ((xaE ub ua y0) !=(0:Int)) ((xaD ub ua y0)) ((xaC ub ua y0)) ((xaB ub ua y0)) ((xaA ub ua y0)) ((xaz ub ua y0))
 ((xay ub ua y0) !=(0:Int)) ((xax ub ua y0)) ((xas ub ua y0)) ((xar ub ua y0)) ((xaq ub ua y0)) ((ua.getD (gi y0 0).toNat []).getD 0 (0:Int))
 ((ua.getD (gi y0 0).toNat []).getD 1 (0:Int)) ((ua.getD (gi y0 0).toNat []).getD 2 (0:Int)) ((ua.getD (gi y0 0).toNat []).getD 3 (0:Int))
 ((ua.getD (gi y0 0).toNat []).getD 4 (0:Int)) ((ua.getD (gi y0 0).toNat []).getD 5 (0:Int)) ((ua.getD (gi y0 0).toNat []).getD 6 (0:Int))
 ((ua.getD (gi y0 0).toNat []).getD 7 (0:Int))
noncomputable def xts (ub:Int) (ua:List (List Int)) (y0:List U):Int :=
 xhM ((xaF ub ua y0)) ((xaE ub ua y0) !=(0:Int)) ((xaD ub ua y0)) ((xaC ub ua y0)) ((xaB ub ua y0)) ((xaA ub ua y0)) ((xaz ub ua y0))
 ((xay ub ua y0) !=(0:Int)) ((xax ub ua y0)) ((xas ub ua y0)) ((xar ub ua y0)) ((xaq ub ua y0)) ((ua.getD (gi y0 0).toNat []).getD 0 (0:Int))
 ((ua.getD (gi y0 0).toNat []).getD 1 (0:Int)) ((ua.getD (gi y0 0).toNat []).getD 2 (0:Int)) ((ua.getD (gi y0 0).toNat []).getD 3 (0:Int))
 ((ua.getD (gi y0 0).toNat []).getD 4 (0:Int)) ((ua.getD (gi y0 0).toNat []).getD 5 (0:Int)) ((ua.getD (gi y0 0).toNat []).getD 6 (0:Int))
 ((ua.getD (gi y0 0).toNat []).getD 7 (0:Int))
noncomputable def xtr (ub:Int) (ua:List (List Int)) (y0:List U):Int :=
 bif decide ((ua.getD (gi y0 0).toNat []).getD 0 (0:Int)=(3:Int)) then (xtt ub ua y0) else (xts ub ua y0)
noncomputable def xtq (ub:Int) (ua:List (List Int)) (y0:List U):Int :=
 bif decide ((ua.getD (gi y0 0).toNat []).getD 0 (0:Int)=(2:Int)) then (xtu ub ua y0) else (xtr ub ua y0)
noncomputable def xtp (ub:Int) (ua:List (List Int)) (y0:List U):Int :=
 bif decide ((ua.getD (gi y0 0).toNat []).getD 0 (0:Int)=(1:Int)) then (xtv ub ua y0) else (xtq ub ua y0)
noncomputable def xto (ub:Int) (ua:List (List Int)) (y0:List U):Int :=
 bif
  bif decide ((ua.getD (gi y0 0).toNat []).getD 0 (0:Int)=(1:Int)) then
   xif ((xaF ub ua y0)) ((xaE ub ua y0) !=(0:Int)) ((xaD ub ua y0)) ((xaC ub ua y0)) ((xaB ub ua y0)) ((xaA ub ua y0)) ((xaz ub ua y0))
    ((xay ub ua y0) !=(0:Int)) ((xax ub ua y0)) ((xas ub ua y0)) ((xar ub ua y0)) ((xaq ub ua y0)) ((ua.getD (gi y0 0).toNat []).getD 0 (0:Int))
    ((ua.getD (gi y0 0).toNat []).getD 1 (0:Int)) ((ua.getD (gi y0 0).toNat []).getD 2 (0:Int))
    ((ua.getD (gi y0 0).toNat []).getD 3 (0:Int)) ((ua.getD (gi y0 0).toNat []).getD 4 (0:Int))
    ((ua.getD (gi y0 0).toNat []).getD 5 (0:Int)) ((ua.getD (gi y0 0).toNat []).getD 6 (0:Int))
    ((ua.getD (gi y0 0).toNat []).getD 7 (0:Int))
  else
   bif decide ((ua.getD (gi y0 0).toNat []).getD 0 (0:Int)=(2:Int)) then
    xh5 ((xaF ub ua y0)) ((xaE ub ua y0) !=(0:Int)) ((xaD ub ua y0)) ((xaC ub ua y0)) ((xaB ub ua y0)) ((xaA ub ua y0)) ((xaz ub ua y0))
     ((xay ub ua y0) !=(0:Int)) ((xax ub ua y0)) ((xas ub ua y0)) ((xar ub ua y0)) ((xaq ub ua y0))
     ((ua.getD (gi y0 0).toNat []).getD 0 (0:Int)) ((ua.getD (gi y0 0).toNat []).getD 1 (0:Int))
     ((ua.getD (gi y0 0).toNat []).getD 2 (0:Int)) ((ua.getD (gi y0 0).toNat []).getD 3 (0:Int))
     ((ua.getD (gi y0 0).toNat []).getD 4 (0:Int)) ((ua.getD (gi y0 0).toNat []).getD 5 (0:Int))
     ((ua.getD (gi y0 0).toNat []).getD 6 (0:Int)) ((ua.getD (gi y0 0).toNat []).getD 7 (0:Int))
   else
    bif decide ((ua.getD (gi y0 0).toNat []).getD 0 (0:Int)=(3:Int)) then
     xhV ((xaF ub ua y0)) ((xaE ub ua y0) !=(0:Int)) ((xaD ub ua y0)) ((xaC ub ua y0)) ((xaB ub ua y0)) ((xaA ub ua y0)) ((xaz ub ua y0))
      ((xay ub ua y0) !=(0:Int)) ((xax ub ua y0)) ((xas ub ua y0)) ((xar ub ua y0)) ((xaq ub ua y0))
      ((ua.getD (gi y0 0).toNat []).getD 0 (0:Int)) ((ua.getD (gi y0 0).toNat []).getD 1 (0:Int))
      ((ua.getD (gi y0 0).toNat []).getD 2 (0:Int)) ((ua.getD (gi y0 0).toNat []).getD 3 (0:Int))
      ((ua.getD (gi y0 0).toNat []).getD 4 (0:Int)) ((ua.getD (gi y0 0).toNat []).getD 5 (0:Int))
      ((ua.getD (gi y0 0).toNat []).getD 6 (0:Int)) ((ua.getD (gi y0 0).toNat []).getD 7 (0:Int))
    else
     xhL ((xaF ub ua y0)) ((xaE ub ua y0) !=(0:Int)) ((xaD ub ua y0)) ((xaC ub ua y0)) ((xaB ub ua y0)) ((xaA ub ua y0)) ((xaz ub ua y0))
      ((xay ub ua y0) !=(0:Int)) ((xax ub ua y0)) ((xas ub ua y0)) ((xar ub ua y0)) ((xaq ub ua y0))
      ((ua.getD (gi y0 0).toNat []).getD 0 (0:Int)) ((ua.getD (gi y0 0).toNat []).getD 1 (0:Int))
      ((ua.getD (gi y0 0).toNat []).getD 2 (0:Int)) ((ua.getD (gi y0 0).toNat []).getD 3 (0:Int))
      ((ua.getD (gi y0 0).toNat []).getD 4 (0:Int)) ((ua.getD (gi y0 0).toNat []).getD 5 (0:Int))
      ((ua.getD (gi y0 0).toNat []).getD 6 (0:Int)) ((ua.getD (gi y0 0).toNat []).getD 7 (0:Int)) then
 (1:Int)
else (0:Int)
noncomputable def xtn (ub:Int) (ua:List (List Int)) (y0:List U):Int :=
 xie ((xaF ub ua y0)) ((xaE ub ua y0) !=(0:Int)) ((xaD ub ua y0)) ((xaC ub ua y0)) ((xaB ub ua y0)) ((xaA ub ua y0)) ((xaz ub ua y0))
 ((xay ub ua y0) !=(0:Int)) ((xax ub ua y0)) ((xas ub ua y0)) ((xar ub ua y0)) ((xaq ub ua y0)) ((ua.getD (gi y0 0).toNat []).getD 0 (0:Int))
 ((ua.getD (gi y0 0).toNat []).getD 1 (0:Int)) ((ua.getD (gi y0 0).toNat []).getD 2 (0:Int)) ((ua.getD (gi y0 0).toNat []).getD 3 (0:Int))
 ((ua.getD (gi y0 0).toNat []).getD 4 (0:Int)) ((ua.getD (gi y0 0).toNat []).getD 5 (0:Int)) ((ua.getD (gi y0 0).toNat []).getD 6 (0:Int))
 ((ua.getD (gi y0 0).toNat []).getD 7 (0:Int))
noncomputable def xtm (ub:Int) (ua:List (List Int)) (y0:List U):Int :=
 xh4 ((xaF ub ua y0)) ((xaE ub ua y0) !=(0:Int)) ((xaD ub ua y0)) ((xaC ub ua y0)) ((xaB ub ua y0)) ((xaA ub ua y0)) ((xaz ub ua y0))
 ((xay ub ua y0) !=(0:Int)) ((xax ub ua y0)) ((xas ub ua y0)) ((xar ub ua y0)) ((xaq ub ua y0)) ((ua.getD (gi y0 0).toNat []).getD 0 (0:Int))
 ((ua.getD (gi y0 0).toNat []).getD 1 (0:Int)) ((ua.getD (gi y0 0).toNat []).getD 2 (0:Int)) ((ua.getD (gi y0 0).toNat []).getD 3 (0:Int))
 ((ua.getD (gi y0 0).toNat []).getD 4 (0:Int)) ((ua.getD (gi y0 0).toNat []).getD 5 (0:Int)) ((ua.getD (gi y0 0).toNat []).getD 6 (0:Int))
 ((ua.getD (gi y0 0).toNat []).getD 7 (0:Int))
noncomputable def xtl (ub:Int) (ua:List (List Int)) (y0:List U):Int :=
 xhU ((xaF ub ua y0)) ((xaE ub ua y0) !=(0:Int)) ((xaD ub ua y0)) ((xaC ub ua y0)) ((xaB ub ua y0)) ((xaA ub ua y0)) ((xaz ub ua y0))
 ((xay ub ua y0) !=(0:Int)) ((xax ub ua y0)) ((xas ub ua y0)) ((xar ub ua y0)) ((xaq ub ua y0)) ((ua.getD (gi y0 0).toNat []).getD 0 (0:Int))
 ((ua.getD (gi y0 0).toNat []).getD 1 (0:Int)) ((ua.getD (gi y0 0).toNat []).getD 2 (0:Int)) ((ua.getD (gi y0 0).toNat []).getD 3 (0:Int))
 ((ua.getD (gi y0 0).toNat []).getD 4 (0:Int)) ((ua.getD (gi y0 0).toNat []).getD 5 (0:Int)) ((ua.getD (gi y0 0).toNat []).getD 6 (0:Int))
 ((ua.getD (gi y0 0).toNat []).getD 7 (0:Int))
noncomputable def xtk (ub:Int) (ua:List (List Int)) (y0:List U):Int :=
 xhK ((xaF ub ua y0)) ((xaE ub ua y0) !=(0:Int)) ((xaD ub ua y0)) ((xaC ub ua y0)) ((xaB ub ua y0)) ((xaA ub ua y0)) ((xaz ub ua y0))
 ((xay ub ua y0) !=(0:Int)) ((xax ub ua y0)) ((xas ub ua y0)) ((xar ub ua y0)) ((xaq ub ua y0)) ((ua.getD (gi y0 0).toNat []).getD 0 (0:Int))
 ((ua.getD (gi y0 0).toNat []).getD 1 (0:Int)) ((ua.getD (gi y0 0).toNat []).getD 2 (0:Int)) ((ua.getD (gi y0 0).toNat []).getD 3 (0:Int))
 ((ua.getD (gi y0 0).toNat []).getD 4 (0:Int)) ((ua.getD (gi y0 0).toNat []).getD 5 (0:Int)) ((ua.getD (gi y0 0).toNat []).getD 6 (0:Int))
 ((ua.getD (gi y0 0).toNat []).getD 7 (0:Int))
noncomputable def xtj (ub:Int) (ua:List (List Int)) (y0:List U):Int :=
 bif decide ((ua.getD (gi y0 0).toNat []).getD 0 (0:Int)=(3:Int)) then (xtl ub ua y0) else (xtk ub ua y0)
noncomputable def xti (ub:Int) (ua:List (List Int)) (y0:List U):Int :=
 bif decide ((ua.getD (gi y0 0).toNat []).getD 0 (0:Int)=(2:Int)) then (xtm ub ua y0) else (xtj ub ua y0)
noncomputable def xth (ub:Int) (ua:List (List Int)) (y0:List U):Int :=
 bif decide ((ua.getD (gi y0 0).toNat []).getD 0 (0:Int)=(1:Int)) then (xtn ub ua y0) else (xti ub ua y0)
noncomputable def xtg (ub:Int) (ua:List (List Int)) (y0:List U):Int :=
 xid ((xaF ub ua y0)) ((xaE ub ua y0) !=(0:Int)) ((xaD ub ua y0)) ((xaC ub ua y0)) ((xaB ub ua y0)) ((xaA ub ua y0)) ((xaz ub ua y0))
 ((xay ub ua y0) !=(0:Int)) ((xax ub ua y0)) ((xas ub ua y0)) ((xar ub ua y0)) ((xaq ub ua y0)) ((ua.getD (gi y0 0).toNat []).getD 0 (0:Int))
 ((ua.getD (gi y0 0).toNat []).getD 1 (0:Int)) ((ua.getD (gi y0 0).toNat []).getD 2 (0:Int)) ((ua.getD (gi y0 0).toNat []).getD 3 (0:Int))
 ((ua.getD (gi y0 0).toNat []).getD 4 (0:Int)) ((ua.getD (gi y0 0).toNat []).getD 5 (0:Int)) ((ua.getD (gi y0 0).toNat []).getD 6 (0:Int))
 ((ua.getD (gi y0 0).toNat []).getD 7 (0:Int))
noncomputable def xtf (ub:Int) (ua:List (List Int)) (y0:List U):Int :=
 xh3 ((xaF ub ua y0)) ((xaE ub ua y0) !=(0:Int)) ((xaD ub ua y0)) ((xaC ub ua y0)) ((xaB ub ua y0)) ((xaA ub ua y0)) ((xaz ub ua y0))
 ((xay ub ua y0) !=(0:Int)) ((xax ub ua y0)) ((xas ub ua y0)) ((xar ub ua y0)) ((xaq ub ua y0)) ((ua.getD (gi y0 0).toNat []).getD 0 (0:Int))
 ((ua.getD (gi y0 0).toNat []).getD 1 (0:Int)) ((ua.getD (gi y0 0).toNat []).getD 2 (0:Int)) ((ua.getD (gi y0 0).toNat []).getD 3 (0:Int))
 ((ua.getD (gi y0 0).toNat []).getD 4 (0:Int)) ((ua.getD (gi y0 0).toNat []).getD 5 (0:Int)) ((ua.getD (gi y0 0).toNat []).getD 6 (0:Int))
 ((ua.getD (gi y0 0).toNat []).getD 7 (0:Int))
noncomputable def xte (ub:Int) (ua:List (List Int)) (y0:List U):Int :=
 xhT ((xaF ub ua y0)) ((xaE ub ua y0) !=(0:Int)) ((xaD ub ua y0)) ((xaC ub ua y0)) ((xaB ub ua y0)) ((xaA ub ua y0)) ((xaz ub ua y0))
 ((xay ub ua y0) !=(0:Int)) ((xax ub ua y0)) ((xas ub ua y0)) ((xar ub ua y0)) ((xaq ub ua y0)) ((ua.getD (gi y0 0).toNat []).getD 0 (0:Int))
 ((ua.getD (gi y0 0).toNat []).getD 1 (0:Int)) ((ua.getD (gi y0 0).toNat []).getD 2 (0:Int)) ((ua.getD (gi y0 0).toNat []).getD 3 (0:Int))
 ((ua.getD (gi y0 0).toNat []).getD 4 (0:Int)) ((ua.getD (gi y0 0).toNat []).getD 5 (0:Int)) ((ua.getD (gi y0 0).toNat []).getD 6 (0:Int))
 ((ua.getD (gi y0 0).toNat []).getD 7 (0:Int))
noncomputable def xtd (ub:Int) (ua:List (List Int)) (y0:List U):Int :=
 xhJ ((xaF ub ua y0)) ((xaE ub ua y0) !=(0:Int)) ((xaD ub ua y0)) ((xaC ub ua y0)) ((xaB ub ua y0)) ((xaA ub ua y0)) ((xaz ub ua y0))
 ((xay ub ua y0) !=(0:Int)) ((xax ub ua y0)) ((xas ub ua y0)) ((xar ub ua y0)) ((xaq ub ua y0)) ((ua.getD (gi y0 0).toNat []).getD 0 (0:Int))
 ((ua.getD (gi y0 0).toNat []).getD 1 (0:Int)) ((ua.getD (gi y0 0).toNat []).getD 2 (0:Int)) ((ua.getD (gi y0 0).toNat []).getD 3 (0:Int))
 ((ua.getD (gi y0 0).toNat []).getD 4 (0:Int)) ((ua.getD (gi y0 0).toNat []).getD 5 (0:Int)) ((ua.getD (gi y0 0).toNat []).getD 6 (0:Int))
 ((ua.getD (gi y0 0).toNat []).getD 7 (0:Int))
noncomputable def xtc (ub:Int) (ua:List (List Int)) (y0:List U):Int :=
 bif decide ((ua.getD (gi y0 0).toNat []).getD 0 (0:Int)=(3:Int)) then (xte ub ua y0) else (xtd ub ua y0)
noncomputable def xtb (ub:Int) (ua:List (List Int)) (y0:List U):Int :=
 bif decide ((ua.getD (gi y0 0).toNat []).getD 0 (0:Int)=(2:Int)) then (xtf ub ua y0) else (xtc ub ua y0)
noncomputable def xta (ub:Int) (ua:List (List Int)) (y0:List U):Int :=
 bif decide ((ua.getD (gi y0 0).toNat []).getD 0 (0:Int)=(1:Int)) then (xtg ub ua y0) else (xtb ub ua y0)
noncomputable def xs9 (ub:Int) (ua:List (List Int)) (y0:List U):Int :=
 xic ((xaF ub ua y0)) ((xaE ub ua y0) !=(0:Int)) ((xaD ub ua y0)) ((xaC ub ua y0)) ((xaB ub ua y0)) ((xaA ub ua y0)) ((xaz ub ua y0))
 ((xay ub ua y0) !=(0:Int)) ((xax ub ua y0)) ((xas ub ua y0)) ((xar ub ua y0)) ((xaq ub ua y0)) ((ua.getD (gi y0 0).toNat []).getD 0 (0:Int))
 ((ua.getD (gi y0 0).toNat []).getD 1 (0:Int)) ((ua.getD (gi y0 0).toNat []).getD 2 (0:Int)) ((ua.getD (gi y0 0).toNat []).getD 3 (0:Int))
 ((ua.getD (gi y0 0).toNat []).getD 4 (0:Int)) ((ua.getD (gi y0 0).toNat []).getD 5 (0:Int)) ((ua.getD (gi y0 0).toNat []).getD 6 (0:Int))
 ((ua.getD (gi y0 0).toNat []).getD 7 (0:Int))
noncomputable def xs8 (ub:Int) (ua:List (List Int)) (y0:List U):Int :=
 xh2 ((xaF ub ua y0)) ((xaE ub ua y0) !=(0:Int)) ((xaD ub ua y0)) ((xaC ub ua y0)) ((xaB ub ua y0)) ((xaA ub ua y0)) ((xaz ub ua y0))
 ((xay ub ua y0) !=(0:Int)) ((xax ub ua y0)) ((xas ub ua y0)) ((xar ub ua y0)) ((xaq ub ua y0)) ((ua.getD (gi y0 0).toNat []).getD 0 (0:Int))
 ((ua.getD (gi y0 0).toNat []).getD 1 (0:Int)) ((ua.getD (gi y0 0).toNat []).getD 2 (0:Int)) ((ua.getD (gi y0 0).toNat []).getD 3 (0:Int))
 ((ua.getD (gi y0 0).toNat []).getD 4 (0:Int)) ((ua.getD (gi y0 0).toNat []).getD 5 (0:Int)) ((ua.getD (gi y0 0).toNat []).getD 6 (0:Int))
 ((ua.getD (gi y0 0).toNat []).getD 7 (0:Int))
noncomputable def xs7 (ub:Int) (ua:List (List Int)) (y0:List U):Int :=
 xhS ((xaF ub ua y0)) ((xaE ub ua y0) !=(0:Int)) ((xaD ub ua y0)) ((xaC ub ua y0)) ((xaB ub ua y0)) ((xaA ub ua y0)) ((xaz ub ua y0))
 ((xay ub ua y0) !=(0:Int)) ((xax ub ua y0)) ((xas ub ua y0)) ((xar ub ua y0)) ((xaq ub ua y0)) ((ua.getD (gi y0 0).toNat []).getD 0 (0:Int))
 ((ua.getD (gi y0 0).toNat []).getD 1 (0:Int)) ((ua.getD (gi y0 0).toNat []).getD 2 (0:Int)) ((ua.getD (gi y0 0).toNat []).getD 3 (0:Int))
 ((ua.getD (gi y0 0).toNat []).getD 4 (0:Int)) ((ua.getD (gi y0 0).toNat []).getD 5 (0:Int)) ((ua.getD (gi y0 0).toNat []).getD 6 (0:Int))
 ((ua.getD (gi y0 0).toNat []).getD 7 (0:Int))
noncomputable def xs6 (ub:Int) (ua:List (List Int)) (y0:List U):Int :=
 xhI ((xaF ub ua y0)) ((xaE ub ua y0) !=(0:Int)) ((xaD ub ua y0)) ((xaC ub ua y0)) ((xaB ub ua y0)) ((xaA ub ua y0)) ((xaz ub ua y0))
 ((xay ub ua y0) !=(0:Int)) ((xax ub ua y0)) ((xas ub ua y0)) ((xar ub ua y0)) ((xaq ub ua y0)) ((ua.getD (gi y0 0).toNat []).getD 0 (0:Int))
 ((ua.getD (gi y0 0).toNat []).getD 1 (0:Int)) ((ua.getD (gi y0 0).toNat []).getD 2 (0:Int)) ((ua.getD (gi y0 0).toNat []).getD 3 (0:Int))
 ((ua.getD (gi y0 0).toNat []).getD 4 (0:Int)) ((ua.getD (gi y0 0).toNat []).getD 5 (0:Int)) ((ua.getD (gi y0 0).toNat []).getD 6 (0:Int))
 ((ua.getD (gi y0 0).toNat []).getD 7 (0:Int))
noncomputable def xs5 (ub:Int) (ua:List (List Int)) (y0:List U):Int :=
 bif decide ((ua.getD (gi y0 0).toNat []).getD 0 (0:Int)=(3:Int)) then (xs7 ub ua y0) else (xs6 ub ua y0)
noncomputable def xs4 (ub:Int) (ua:List (List Int)) (y0:List U):Int :=
 bif decide ((ua.getD (gi y0 0).toNat []).getD 0 (0:Int)=(2:Int)) then (xs8 ub ua y0) else (xs5 ub ua y0)
noncomputable def xs3 (ub:Int) (ua:List (List Int)) (y0:List U):Int :=
 bif decide ((ua.getD (gi y0 0).toNat []).getD 0 (0:Int)=(1:Int)) then (xs9 ub ua y0) else (xs4 ub ua y0)
noncomputable def xs2 (ub:Int) (ua:List (List Int)) (y0:List U):Int :=
 xib ((xaF ub ua y0)) ((xaE ub ua y0) !=(0:Int)) ((xaD ub ua y0)) ((xaC ub ua y0)) ((xaB ub ua y0)) ((xaA ub ua y0)) ((xaz ub ua y0))
 ((xay ub ua y0) !=(0:Int)) ((xax ub ua y0)) ((xas ub ua y0)) ((xar ub ua y0)) ((xaq ub ua y0)) ((ua.getD (gi y0 0).toNat []).getD 0 (0:Int))
 ((ua.getD (gi y0 0).toNat []).getD 1 (0:Int)) ((ua.getD (gi y0 0).toNat []).getD 2 (0:Int)) ((ua.getD (gi y0 0).toNat []).getD 3 (0:Int))
 ((ua.getD (gi y0 0).toNat []).getD 4 (0:Int)) ((ua.getD (gi y0 0).toNat []).getD 5 (0:Int)) ((ua.getD (gi y0 0).toNat []).getD 6 (0:Int))
 ((ua.getD (gi y0 0).toNat []).getD 7 (0:Int))
noncomputable def xs1 (ub:Int) (ua:List (List Int)) (y0:List U):Int :=
 xh1 ((xaF ub ua y0)) ((xaE ub ua y0) !=(0:Int)) ((xaD ub ua y0)) ((xaC ub ua y0)) ((xaB ub ua y0)) ((xaA ub ua y0)) ((xaz ub ua y0))
 ((xay ub ua y0) !=(0:Int)) ((xax ub ua y0)) ((xas ub ua y0)) ((xar ub ua y0)) ((xaq ub ua y0)) ((ua.getD (gi y0 0).toNat []).getD 0 (0:Int))
 ((ua.getD (gi y0 0).toNat []).getD 1 (0:Int)) ((ua.getD (gi y0 0).toNat []).getD 2 (0:Int)) ((ua.getD (gi y0 0).toNat []).getD 3 (0:Int))
 ((ua.getD (gi y0 0).toNat []).getD 4 (0:Int)) ((ua.getD (gi y0 0).toNat []).getD 5 (0:Int)) ((ua.getD (gi y0 0).toNat []).getD 6 (0:Int))
 ((ua.getD (gi y0 0).toNat []).getD 7 (0:Int))
noncomputable def xsZ (ub:Int) (ua:List (List Int)) (y0:List U):Int :=
 xhR ((xaF ub ua y0)) ((xaE ub ua y0) !=(0:Int)) ((xaD ub ua y0)) ((xaC ub ua y0)) ((xaB ub ua y0)) ((xaA ub ua y0)) ((xaz ub ua y0))
 ((xay ub ua y0) !=(0:Int)) ((xax ub ua y0)) ((xas ub ua y0)) ((xar ub ua y0)) ((xaq ub ua y0)) ((ua.getD (gi y0 0).toNat []).getD 0 (0:Int))
 ((ua.getD (gi y0 0).toNat []).getD 1 (0:Int)) ((ua.getD (gi y0 0).toNat []).getD 2 (0:Int)) ((ua.getD (gi y0 0).toNat []).getD 3 (0:Int))
 ((ua.getD (gi y0 0).toNat []).getD 4 (0:Int)) ((ua.getD (gi y0 0).toNat []).getD 5 (0:Int)) ((ua.getD (gi y0 0).toNat []).getD 6 (0:Int))
 ((ua.getD (gi y0 0).toNat []).getD 7 (0:Int))
noncomputable def xsY (ub:Int) (ua:List (List Int)) (y0:List U):Int :=
 xhH ((xaF ub ua y0)) ((xaE ub ua y0) !=(0:Int)) ((xaD ub ua y0)) ((xaC ub ua y0)) ((xaB ub ua y0)) ((xaA ub ua y0)) ((xaz ub ua y0))
 ((xay ub ua y0) !=(0:Int)) ((xax ub ua y0)) ((xas ub ua y0)) ((xar ub ua y0)) ((xaq ub ua y0)) ((ua.getD (gi y0 0).toNat []).getD 0 (0:Int))
 ((ua.getD (gi y0 0).toNat []).getD 1 (0:Int)) ((ua.getD (gi y0 0).toNat []).getD 2 (0:Int)) ((ua.getD (gi y0 0).toNat []).getD 3 (0:Int))
 ((ua.getD (gi y0 0).toNat []).getD 4 (0:Int)) ((ua.getD (gi y0 0).toNat []).getD 5 (0:Int)) ((ua.getD (gi y0 0).toNat []).getD 6 (0:Int))
 ((ua.getD (gi y0 0).toNat []).getD 7 (0:Int))
noncomputable def xsX (ub:Int) (ua:List (List Int)) (y0:List U):Int :=
 bif decide ((ua.getD (gi y0 0).toNat []).getD 0 (0:Int)=(3:Int)) then (xsZ ub ua y0) else (xsY ub ua y0)
noncomputable def xsW (ub:Int) (ua:List (List Int)) (y0:List U):Int :=
 bif decide ((ua.getD (gi y0 0).toNat []).getD 0 (0:Int)=(2:Int)) then (xs1 ub ua y0) else (xsX ub ua y0)
noncomputable def xsV (ub:Int) (ua:List (List Int)) (y0:List U):Int :=
 bif decide ((ua.getD (gi y0 0).toNat []).getD 0 (0:Int)=(1:Int)) then (xs2 ub ua y0) else (xsW ub ua y0)
noncomputable def xsU (ub:Int) (ua:List (List Int)) (y0:List U):Int :=
 xia ((xaF ub ua y0)) ((xaE ub ua y0) !=(0:Int)) ((xaD ub ua y0)) ((xaC ub ua y0)) ((xaB ub ua y0)) ((xaA ub ua y0)) ((xaz ub ua y0))
 ((xay ub ua y0) !=(0:Int)) ((xax ub ua y0)) ((xas ub ua y0)) ((xar ub ua y0)) ((xaq ub ua y0)) ((ua.getD (gi y0 0).toNat []).getD 0 (0:Int))
 ((ua.getD (gi y0 0).toNat []).getD 1 (0:Int)) ((ua.getD (gi y0 0).toNat []).getD 2 (0:Int)) ((ua.getD (gi y0 0).toNat []).getD 3 (0:Int))
 ((ua.getD (gi y0 0).toNat []).getD 4 (0:Int)) ((ua.getD (gi y0 0).toNat []).getD 5 (0:Int)) ((ua.getD (gi y0 0).toNat []).getD 6 (0:Int))
 ((ua.getD (gi y0 0).toNat []).getD 7 (0:Int))
noncomputable def xsT (ub:Int) (ua:List (List Int)) (y0:List U):Int :=
 xh0 ((xaF ub ua y0)) ((xaE ub ua y0) !=(0:Int)) ((xaD ub ua y0)) ((xaC ub ua y0)) ((xaB ub ua y0)) ((xaA ub ua y0)) ((xaz ub ua y0))
 ((xay ub ua y0) !=(0:Int)) ((xax ub ua y0)) ((xas ub ua y0)) ((xar ub ua y0)) ((xaq ub ua y0)) ((ua.getD (gi y0 0).toNat []).getD 0 (0:Int))
 ((ua.getD (gi y0 0).toNat []).getD 1 (0:Int)) ((ua.getD (gi y0 0).toNat []).getD 2 (0:Int)) ((ua.getD (gi y0 0).toNat []).getD 3 (0:Int))
 ((ua.getD (gi y0 0).toNat []).getD 4 (0:Int)) ((ua.getD (gi y0 0).toNat []).getD 5 (0:Int)) ((ua.getD (gi y0 0).toNat []).getD 6 (0:Int))
 ((ua.getD (gi y0 0).toNat []).getD 7 (0:Int))
noncomputable def xsS (ub:Int) (ua:List (List Int)) (y0:List U):Int :=
 xhQ ((xaF ub ua y0)) ((xaE ub ua y0) !=(0:Int)) ((xaD ub ua y0)) ((xaC ub ua y0)) ((xaB ub ua y0)) ((xaA ub ua y0)) ((xaz ub ua y0))
 ((xay ub ua y0) !=(0:Int)) ((xax ub ua y0)) ((xas ub ua y0)) ((xar ub ua y0)) ((xaq ub ua y0)) ((ua.getD (gi y0 0).toNat []).getD 0 (0:Int))
 ((ua.getD (gi y0 0).toNat []).getD 1 (0:Int)) ((ua.getD (gi y0 0).toNat []).getD 2 (0:Int)) ((ua.getD (gi y0 0).toNat []).getD 3 (0:Int))
 ((ua.getD (gi y0 0).toNat []).getD 4 (0:Int)) ((ua.getD (gi y0 0).toNat []).getD 5 (0:Int)) ((ua.getD (gi y0 0).toNat []).getD 6 (0:Int))
 ((ua.getD (gi y0 0).toNat []).getD 7 (0:Int))
noncomputable def xsR (ub:Int) (ua:List (List Int)) (y0:List U):Int :=
 xhG ((xaF ub ua y0)) ((xaE ub ua y0) !=(0:Int)) ((xaD ub ua y0)) ((xaC ub ua y0)) ((xaB ub ua y0)) ((xaA ub ua y0)) ((xaz ub ua y0))
 ((xay ub ua y0) !=(0:Int)) ((xax ub ua y0)) ((xas ub ua y0)) ((xar ub ua y0)) ((xaq ub ua y0)) ((ua.getD (gi y0 0).toNat []).getD 0 (0:Int))
 ((ua.getD (gi y0 0).toNat []).getD 1 (0:Int)) ((ua.getD (gi y0 0).toNat []).getD 2 (0:Int)) ((ua.getD (gi y0 0).toNat []).getD 3 (0:Int))
 ((ua.getD (gi y0 0).toNat []).getD 4 (0:Int)) ((ua.getD (gi y0 0).toNat []).getD 5 (0:Int)) ((ua.getD (gi y0 0).toNat []).getD 6 (0:Int))
 ((ua.getD (gi y0 0).toNat []).getD 7 (0:Int))
noncomputable def xsQ (ub:Int) (ua:List (List Int)) (y0:List U):Int :=
 bif decide ((ua.getD (gi y0 0).toNat []).getD 0 (0:Int)=(3:Int)) then (xsS ub ua y0) else (xsR ub ua y0)
noncomputable def xsP (ub:Int) (ua:List (List Int)) (y0:List U):Int :=
 bif decide ((ua.getD (gi y0 0).toNat []).getD 0 (0:Int)=(2:Int)) then (xsT ub ua y0) else (xsQ ub ua y0)
noncomputable def xsO (ub:Int) (ua:List (List Int)) (y0:List U):Int :=
 bif decide ((ua.getD (gi y0 0).toNat []).getD 0 (0:Int)=(1:Int)) then (xsU ub ua y0) else (xsP ub ua y0)
noncomputable def xsN (ub:Int) (ua:List (List Int)) (y0:List U):Int :=
 bif
  bif decide ((ua.getD (gi y0 0).toNat []).getD 0 (0:Int)=(1:Int)) then
   xh9 ((xaF ub ua y0)) ((xaE ub ua y0) !=(0:Int)) ((xaD ub ua y0)) ((xaC ub ua y0)) ((xaB ub ua y0)) ((xaA ub ua y0)) ((xaz ub ua y0))
    ((xay ub ua y0) !=(0:Int)) ((xax ub ua y0)) ((xas ub ua y0)) ((xar ub ua y0)) ((xaq ub ua y0)) ((ua.getD (gi y0 0).toNat []).getD 0 (0:Int))
    ((ua.getD (gi y0 0).toNat []).getD 1 (0:Int)) ((ua.getD (gi y0 0).toNat []).getD 2 (0:Int))
    ((ua.getD (gi y0 0).toNat []).getD 3 (0:Int)) ((ua.getD (gi y0 0).toNat []).getD 4 (0:Int))
    ((ua.getD (gi y0 0).toNat []).getD 5 (0:Int)) ((ua.getD (gi y0 0).toNat []).getD 6 (0:Int))
    ((ua.getD (gi y0 0).toNat []).getD 7 (0:Int))
  else
   bif decide ((ua.getD (gi y0 0).toNat []).getD 0 (0:Int)=(2:Int)) then
    xhZ ((xaF ub ua y0)) ((xaE ub ua y0) !=(0:Int)) ((xaD ub ua y0)) ((xaC ub ua y0)) ((xaB ub ua y0)) ((xaA ub ua y0)) ((xaz ub ua y0))
     ((xay ub ua y0) !=(0:Int)) ((xax ub ua y0)) ((xas ub ua y0)) ((xar ub ua y0)) ((xaq ub ua y0))
     ((ua.getD (gi y0 0).toNat []).getD 0 (0:Int)) ((ua.getD (gi y0 0).toNat []).getD 1 (0:Int))
     ((ua.getD (gi y0 0).toNat []).getD 2 (0:Int)) ((ua.getD (gi y0 0).toNat []).getD 3 (0:Int))
     ((ua.getD (gi y0 0).toNat []).getD 4 (0:Int)) ((ua.getD (gi y0 0).toNat []).getD 5 (0:Int))
     ((ua.getD (gi y0 0).toNat []).getD 6 (0:Int)) ((ua.getD (gi y0 0).toNat []).getD 7 (0:Int))
   else
    bif decide ((ua.getD (gi y0 0).toNat []).getD 0 (0:Int)=(3:Int)) then
     xhP ((xaF ub ua y0)) ((xaE ub ua y0) !=(0:Int)) ((xaD ub ua y0)) ((xaC ub ua y0)) ((xaB ub ua y0)) ((xaA ub ua y0)) ((xaz ub ua y0))
      ((xay ub ua y0) !=(0:Int)) ((xax ub ua y0)) ((xas ub ua y0)) ((xar ub ua y0)) ((xaq ub ua y0))
      ((ua.getD (gi y0 0).toNat []).getD 0 (0:Int)) ((ua.getD (gi y0 0).toNat []).getD 1 (0:Int))
      ((ua.getD (gi y0 0).toNat []).getD 2 (0:Int)) ((ua.getD (gi y0 0).toNat []).getD 3 (0:Int))
      ((ua.getD (gi y0 0).toNat []).getD 4 (0:Int)) ((ua.getD (gi y0 0).toNat []).getD 5 (0:Int))
      ((ua.getD (gi y0 0).toNat []).getD 6 (0:Int)) ((ua.getD (gi y0 0).toNat []).getD 7 (0:Int))
    else
     xhF ((xaF ub ua y0)) ((xaE ub ua y0) !=(0:Int)) ((xaD ub ua y0)) ((xaC ub ua y0)) ((xaB ub ua y0)) ((xaA ub ua y0)) ((xaz ub ua y0))
      ((xay ub ua y0) !=(0:Int)) ((xax ub ua y0)) ((xas ub ua y0)) ((xar ub ua y0)) ((xaq ub ua y0))
      ((ua.getD (gi y0 0).toNat []).getD 0 (0:Int)) ((ua.getD (gi y0 0).toNat []).getD 1 (0:Int))
      ((ua.getD (gi y0 0).toNat []).getD 2 (0:Int)) ((ua.getD (gi y0 0).toNat []).getD 3 (0:Int))
      ((ua.getD (gi y0 0).toNat []).getD 4 (0:Int)) ((ua.getD (gi y0 0).toNat []).getD 5 (0:Int))
      ((ua.getD (gi y0 0).toNat []).getD 6 (0:Int)) ((ua.getD (gi y0 0).toNat []).getD 7 (0:Int)) then
 (1:Int)
else (0:Int)
noncomputable def xsM (ub:Int) (ua:List (List Int)) (y0:List U):Int :=
 xh8 ((xaF ub ua y0)) ((xaE ub ua y0) !=(0:Int)) ((xaD ub ua y0)) ((xaC ub ua y0)) ((xaB ub ua y0)) ((xaA ub ua y0)) ((xaz ub ua y0))
 ((xay ub ua y0) !=(0:Int)) ((xax ub ua y0)) ((xas ub ua y0)) ((xar ub ua y0)) ((xaq ub ua y0)) ((ua.getD (gi y0 0).toNat []).getD 0 (0:Int))
 ((ua.getD (gi y0 0).toNat []).getD 1 (0:Int)) ((ua.getD (gi y0 0).toNat []).getD 2 (0:Int)) ((ua.getD (gi y0 0).toNat []).getD 3 (0:Int))
 ((ua.getD (gi y0 0).toNat []).getD 4 (0:Int)) ((ua.getD (gi y0 0).toNat []).getD 5 (0:Int)) ((ua.getD (gi y0 0).toNat []).getD 6 (0:Int))
 ((ua.getD (gi y0 0).toNat []).getD 7 (0:Int))
noncomputable def xsL (ub:Int) (ua:List (List Int)) (y0:List U):Int :=
 xhY ((xaF ub ua y0)) ((xaE ub ua y0) !=(0:Int)) ((xaD ub ua y0)) ((xaC ub ua y0)) ((xaB ub ua y0)) ((xaA ub ua y0)) ((xaz ub ua y0))
 ((xay ub ua y0) !=(0:Int)) ((xax ub ua y0)) ((xas ub ua y0)) ((xar ub ua y0)) ((xaq ub ua y0)) ((ua.getD (gi y0 0).toNat []).getD 0 (0:Int))
 ((ua.getD (gi y0 0).toNat []).getD 1 (0:Int)) ((ua.getD (gi y0 0).toNat []).getD 2 (0:Int)) ((ua.getD (gi y0 0).toNat []).getD 3 (0:Int))
 ((ua.getD (gi y0 0).toNat []).getD 4 (0:Int)) ((ua.getD (gi y0 0).toNat []).getD 5 (0:Int)) ((ua.getD (gi y0 0).toNat []).getD 6 (0:Int))
 ((ua.getD (gi y0 0).toNat []).getD 7 (0:Int))
noncomputable def xsK (ub:Int) (ua:List (List Int)) (y0:List U):Int :=
 xhO ((xaF ub ua y0)) ((xaE ub ua y0) !=(0:Int)) ((xaD ub ua y0)) ((xaC ub ua y0)) ((xaB ub ua y0)) ((xaA ub ua y0)) ((xaz ub ua y0))
 ((xay ub ua y0) !=(0:Int)) ((xax ub ua y0)) ((xas ub ua y0)) ((xar ub ua y0)) ((xaq ub ua y0)) ((ua.getD (gi y0 0).toNat []).getD 0 (0:Int))
 ((ua.getD (gi y0 0).toNat []).getD 1 (0:Int)) ((ua.getD (gi y0 0).toNat []).getD 2 (0:Int)) ((ua.getD (gi y0 0).toNat []).getD 3 (0:Int))
 ((ua.getD (gi y0 0).toNat []).getD 4 (0:Int)) ((ua.getD (gi y0 0).toNat []).getD 5 (0:Int)) ((ua.getD (gi y0 0).toNat []).getD 6 (0:Int))
 ((ua.getD (gi y0 0).toNat []).getD 7 (0:Int))
noncomputable def xsJ (ub:Int) (ua:List (List Int)) (y0:List U):Int :=
 xhE ((xaF ub ua y0)) ((xaE ub ua y0) !=(0:Int)) ((xaD ub ua y0)) ((xaC ub ua y0)) ((xaB ub ua y0)) ((xaA ub ua y0)) ((xaz ub ua y0))
 ((xay ub ua y0) !=(0:Int)) ((xax ub ua y0)) ((xas ub ua y0)) ((xar ub ua y0)) ((xaq ub ua y0)) ((ua.getD (gi y0 0).toNat []).getD 0 (0:Int))
 ((ua.getD (gi y0 0).toNat []).getD 1 (0:Int)) ((ua.getD (gi y0 0).toNat []).getD 2 (0:Int)) ((ua.getD (gi y0 0).toNat []).getD 3 (0:Int))
 ((ua.getD (gi y0 0).toNat []).getD 4 (0:Int)) ((ua.getD (gi y0 0).toNat []).getD 5 (0:Int)) ((ua.getD (gi y0 0).toNat []).getD 6 (0:Int))
 ((ua.getD (gi y0 0).toNat []).getD 7 (0:Int))
noncomputable def xsI (ub:Int) (ua:List (List Int)) (y0:List U):Int :=
 bif decide ((ua.getD (gi y0 0).toNat []).getD 0 (0:Int)=(3:Int)) then (xsK ub ua y0) else (xsJ ub ua y0)
noncomputable def xsH (ub:Int) (ua:List (List Int)) (y0:List U):Int :=
 bif decide ((ua.getD (gi y0 0).toNat []).getD 0 (0:Int)=(2:Int)) then (xsL ub ua y0) else (xsI ub ua y0)
noncomputable def xsG (ub:Int) (ua:List (List Int)) (y0:List U):Int :=
 bif decide ((ua.getD (gi y0 0).toNat []).getD 0 (0:Int)=(1:Int)) then (xsM ub ua y0) else (xsH ub ua y0)
noncomputable def xsF (ub:Int) (ua:List (List Int)) (y0:List U):Int :=
 xh7 ((xaF ub ua y0)) ((xaE ub ua y0) !=(0:Int)) ((xaD ub ua y0)) ((xaC ub ua y0)) ((xaB ub ua y0)) ((xaA ub ua y0)) ((xaz ub ua y0))
 ((xay ub ua y0) !=(0:Int)) ((xax ub ua y0)) ((xas ub ua y0)) ((xar ub ua y0)) ((xaq ub ua y0)) ((ua.getD (gi y0 0).toNat []).getD 0 (0:Int))
 ((ua.getD (gi y0 0).toNat []).getD 1 (0:Int)) ((ua.getD (gi y0 0).toNat []).getD 2 (0:Int)) ((ua.getD (gi y0 0).toNat []).getD 3 (0:Int))
 ((ua.getD (gi y0 0).toNat []).getD 4 (0:Int)) ((ua.getD (gi y0 0).toNat []).getD 5 (0:Int)) ((ua.getD (gi y0 0).toNat []).getD 6 (0:Int))
 ((ua.getD (gi y0 0).toNat []).getD 7 (0:Int))
noncomputable def xsE (ub:Int) (ua:List (List Int)) (y0:List U):Int :=
 xhX ((xaF ub ua y0)) ((xaE ub ua y0) !=(0:Int)) ((xaD ub ua y0)) ((xaC ub ua y0)) ((xaB ub ua y0)) ((xaA ub ua y0)) ((xaz ub ua y0))
 ((xay ub ua y0) !=(0:Int)) ((xax ub ua y0)) ((xas ub ua y0)) ((xar ub ua y0)) ((xaq ub ua y0)) ((ua.getD (gi y0 0).toNat []).getD 0 (0:Int))
 ((ua.getD (gi y0 0).toNat []).getD 1 (0:Int)) ((ua.getD (gi y0 0).toNat []).getD 2 (0:Int)) ((ua.getD (gi y0 0).toNat []).getD 3 (0:Int))
 ((ua.getD (gi y0 0).toNat []).getD 4 (0:Int)) ((ua.getD (gi y0 0).toNat []).getD 5 (0:Int)) ((ua.getD (gi y0 0).toNat []).getD 6 (0:Int))
 ((ua.getD (gi y0 0).toNat []).getD 7 (0:Int))
noncomputable def xsD (ub:Int) (ua:List (List Int)) (y0:List U):Int :=
 xhN ((xaF ub ua y0)) ((xaE ub ua y0) !=(0:Int)) ((xaD ub ua y0)) ((xaC ub ua y0)) ((xaB ub ua y0)) ((xaA ub ua y0)) ((xaz ub ua y0))
 ((xay ub ua y0) !=(0:Int)) ((xax ub ua y0)) ((xas ub ua y0)) ((xar ub ua y0)) ((xaq ub ua y0)) ((ua.getD (gi y0 0).toNat []).getD 0 (0:Int))
 ((ua.getD (gi y0 0).toNat []).getD 1 (0:Int)) ((ua.getD (gi y0 0).toNat []).getD 2 (0:Int)) ((ua.getD (gi y0 0).toNat []).getD 3 (0:Int))
 ((ua.getD (gi y0 0).toNat []).getD 4 (0:Int)) ((ua.getD (gi y0 0).toNat []).getD 5 (0:Int)) ((ua.getD (gi y0 0).toNat []).getD 6 (0:Int))
 ((ua.getD (gi y0 0).toNat []).getD 7 (0:Int))
noncomputable def xsC (ub:Int) (ua:List (List Int)) (y0:List U):Int :=
 xhD ((xaF ub ua y0)) ((xaE ub ua y0) !=(0:Int)) ((xaD ub ua y0)) ((xaC ub ua y0)) ((xaB ub ua y0)) ((xaA ub ua y0)) ((xaz ub ua y0))
 ((xay ub ua y0) !=(0:Int)) ((xax ub ua y0)) ((xas ub ua y0)) ((xar ub ua y0)) ((xaq ub ua y0)) ((ua.getD (gi y0 0).toNat []).getD 0 (0:Int))
 ((ua.getD (gi y0 0).toNat []).getD 1 (0:Int)) ((ua.getD (gi y0 0).toNat []).getD 2 (0:Int)) ((ua.getD (gi y0 0).toNat []).getD 3 (0:Int))
 ((ua.getD (gi y0 0).toNat []).getD 4 (0:Int)) ((ua.getD (gi y0 0).toNat []).getD 5 (0:Int)) ((ua.getD (gi y0 0).toNat []).getD 6 (0:Int))
 ((ua.getD (gi y0 0).toNat []).getD 7 (0:Int))
noncomputable def xsB (ub:Int) (ua:List (List Int)) (y0:List U):Int :=
 bif decide ((ua.getD (gi y0 0).toNat []).getD 0 (0:Int)=(3:Int)) then (xsD ub ua y0) else (xsC ub ua y0)
noncomputable def xsA (ub:Int) (ua:List (List Int)) (y0:List U):Int :=
 bif decide ((ua.getD (gi y0 0).toNat []).getD 0 (0:Int)=(2:Int)) then (xsE ub ua y0) else (xsB ub ua y0)
noncomputable def xsz (ub:Int) (ua:List (List Int)) (y0:List U):Int :=
 bif decide ((ua.getD (gi y0 0).toNat []).getD 0 (0:Int)=(1:Int)) then (xsF ub ua y0) else (xsA ub ua y0)
noncomputable def xsy (ub:Int) (ua:List (List Int)) (y0:List U):Int :=
 xg5 ((xaF ub ua y0)) ((xaE ub ua y0) !=(0:Int)) ((xaD ub ua y0)) ((xaC ub ua y0)) ((xaB ub ua y0)) ((xaA ub ua y0)) ((xaz ub ua y0))
 ((xay ub ua y0) !=(0:Int)) ((xax ub ua y0)) ((xas ub ua y0)) ((xar ub ua y0)) ((xaq ub ua y0)) ((ua.getD (gi y0 0).toNat []).getD 0 (0:Int))
 ((ua.getD (gi y0 0).toNat []).getD 1 (0:Int)) ((ua.getD (gi y0 0).toNat []).getD 2 (0:Int)) ((ua.getD (gi y0 0).toNat []).getD 3 (0:Int))
 ((ua.getD (gi y0 0).toNat []).getD 4 (0:Int)) ((ua.getD (gi y0 0).toNat []).getD 5 (0:Int)) ((ua.getD (gi y0 0).toNat []).getD 6 (0:Int))
 ((ua.getD (gi y0 0).toNat []).getD 7 (0:Int))
noncomputable def xsx (ub:Int) (ua:List (List Int)) (y0:List U):Int :=
 xg1 ((xaF ub ua y0)) ((xaE ub ua y0) !=(0:Int)) ((xaD ub ua y0)) ((xaC ub ua y0)) ((xaB ub ua y0)) ((xaA ub ua y0)) ((xaz ub ua y0))
 ((xay ub ua y0) !=(0:Int)) ((xax ub ua y0)) ((xas ub ua y0)) ((xar ub ua y0)) ((xaq ub ua y0)) ((ua.getD (gi y0 0).toNat []).getD 0 (0:Int))
 ((ua.getD (gi y0 0).toNat []).getD 1 (0:Int)) ((ua.getD (gi y0 0).toNat []).getD 2 (0:Int)) ((ua.getD (gi y0 0).toNat []).getD 3 (0:Int))
 ((ua.getD (gi y0 0).toNat []).getD 4 (0:Int)) ((ua.getD (gi y0 0).toNat []).getD 5 (0:Int)) ((ua.getD (gi y0 0).toNat []).getD 6 (0:Int))
 ((ua.getD (gi y0 0).toNat []).getD 7 (0:Int))
noncomputable def xsw (ub:Int) (ua:List (List Int)) (y0:List U):Int :=
 xgX ((xaF ub ua y0)) ((xaE ub ua y0) !=(0:Int)) ((xaD ub ua y0)) ((xaC ub ua y0)) ((xaB ub ua y0)) ((xaA ub ua y0)) ((xaz ub ua y0))
 ((xay ub ua y0) !=(0:Int)) ((xax ub ua y0)) ((xas ub ua y0)) ((xar ub ua y0)) ((xaq ub ua y0)) ((ua.getD (gi y0 0).toNat []).getD 0 (0:Int))
 ((ua.getD (gi y0 0).toNat []).getD 1 (0:Int)) ((ua.getD (gi y0 0).toNat []).getD 2 (0:Int)) ((ua.getD (gi y0 0).toNat []).getD 3 (0:Int))
 ((ua.getD (gi y0 0).toNat []).getD 4 (0:Int)) ((ua.getD (gi y0 0).toNat []).getD 5 (0:Int)) ((ua.getD (gi y0 0).toNat []).getD 6 (0:Int))
 ((ua.getD (gi y0 0).toNat []).getD 7 (0:Int))
noncomputable def xsv (ub:Int) (ua:List (List Int)) (y0:List U):Int :=
 xgT ((xaF ub ua y0)) ((xaE ub ua y0) !=(0:Int)) ((xaD ub ua y0)) ((xaC ub ua y0)) ((xaB ub ua y0)) ((xaA ub ua y0)) ((xaz ub ua y0))
 ((xay ub ua y0) !=(0:Int)) ((xax ub ua y0)) ((xas ub ua y0)) ((xar ub ua y0)) ((xaq ub ua y0)) ((ua.getD (gi y0 0).toNat []).getD 0 (0:Int))
 ((ua.getD (gi y0 0).toNat []).getD 1 (0:Int)) ((ua.getD (gi y0 0).toNat []).getD 2 (0:Int)) ((ua.getD (gi y0 0).toNat []).getD 3 (0:Int))
 ((ua.getD (gi y0 0).toNat []).getD 4 (0:Int)) ((ua.getD (gi y0 0).toNat []).getD 5 (0:Int)) ((ua.getD (gi y0 0).toNat []).getD 6 (0:Int))
 ((ua.getD (gi y0 0).toNat []).getD 7 (0:Int))
noncomputable def xsu (ub:Int) (ua:List (List Int)) (y0:List U):Int :=
 bif decide ((ua.getD (gi y0 0).toNat []).getD 0 (0:Int)=(3:Int)) then (xsw ub ua y0) else (xsv ub ua y0)
noncomputable def xst (ub:Int) (ua:List (List Int)) (y0:List U):Int :=
 bif decide ((ua.getD (gi y0 0).toNat []).getD 0 (0:Int)=(2:Int)) then (xsx ub ua y0) else (xsu ub ua y0)
noncomputable def xss (ub:Int) (ua:List (List Int)) (y0:List U):Int :=
 bif decide ((ua.getD (gi y0 0).toNat []).getD 0 (0:Int)=(1:Int)) then (xsy ub ua y0) else (xst ub ua y0)
noncomputable def xsr (ub:Int) (ua:List (List Int)) (y0:List U):Int :=
 xg4 ((xaF ub ua y0)) ((xaE ub ua y0) !=(0:Int)) ((xaD ub ua y0)) ((xaC ub ua y0)) ((xaB ub ua y0)) ((xaA ub ua y0)) ((xaz ub ua y0))
 ((xay ub ua y0) !=(0:Int)) ((xax ub ua y0)) ((xas ub ua y0)) ((xar ub ua y0)) ((xaq ub ua y0)) ((ua.getD (gi y0 0).toNat []).getD 0 (0:Int))
 ((ua.getD (gi y0 0).toNat []).getD 1 (0:Int)) ((ua.getD (gi y0 0).toNat []).getD 2 (0:Int)) ((ua.getD (gi y0 0).toNat []).getD 3 (0:Int))
 ((ua.getD (gi y0 0).toNat []).getD 4 (0:Int)) ((ua.getD (gi y0 0).toNat []).getD 5 (0:Int)) ((ua.getD (gi y0 0).toNat []).getD 6 (0:Int))
 ((ua.getD (gi y0 0).toNat []).getD 7 (0:Int))
noncomputable def xsq (ub:Int) (ua:List (List Int)) (y0:List U):Int :=
 xg0 ((xaF ub ua y0)) ((xaE ub ua y0) !=(0:Int)) ((xaD ub ua y0)) ((xaC ub ua y0)) ((xaB ub ua y0)) ((xaA ub ua y0)) ((xaz ub ua y0))
 ((xay ub ua y0) !=(0:Int)) ((xax ub ua y0)) ((xas ub ua y0)) ((xar ub ua y0)) ((xaq ub ua y0)) ((ua.getD (gi y0 0).toNat []).getD 0 (0:Int))
 ((ua.getD (gi y0 0).toNat []).getD 1 (0:Int)) ((ua.getD (gi y0 0).toNat []).getD 2 (0:Int)) ((ua.getD (gi y0 0).toNat []).getD 3 (0:Int))
 ((ua.getD (gi y0 0).toNat []).getD 4 (0:Int)) ((ua.getD (gi y0 0).toNat []).getD 5 (0:Int)) ((ua.getD (gi y0 0).toNat []).getD 6 (0:Int))
 ((ua.getD (gi y0 0).toNat []).getD 7 (0:Int))
noncomputable def xsp (ub:Int) (ua:List (List Int)) (y0:List U):Int :=
 xgW ((xaF ub ua y0)) ((xaE ub ua y0) !=(0:Int)) ((xaD ub ua y0)) ((xaC ub ua y0)) ((xaB ub ua y0)) ((xaA ub ua y0)) ((xaz ub ua y0))
 ((xay ub ua y0) !=(0:Int)) ((xax ub ua y0)) ((xas ub ua y0)) ((xar ub ua y0)) ((xaq ub ua y0)) ((ua.getD (gi y0 0).toNat []).getD 0 (0:Int))
 ((ua.getD (gi y0 0).toNat []).getD 1 (0:Int)) ((ua.getD (gi y0 0).toNat []).getD 2 (0:Int)) ((ua.getD (gi y0 0).toNat []).getD 3 (0:Int))
 ((ua.getD (gi y0 0).toNat []).getD 4 (0:Int)) ((ua.getD (gi y0 0).toNat []).getD 5 (0:Int)) ((ua.getD (gi y0 0).toNat []).getD 6 (0:Int))
 ((ua.getD (gi y0 0).toNat []).getD 7 (0:Int))
noncomputable def xso (ub:Int) (ua:List (List Int)) (y0:List U):Int :=
 xgS ((xaF ub ua y0)) ((xaE ub ua y0) !=(0:Int)) ((xaD ub ua y0)) ((xaC ub ua y0)) ((xaB ub ua y0)) ((xaA ub ua y0)) ((xaz ub ua y0))
 ((xay ub ua y0) !=(0:Int)) ((xax ub ua y0)) ((xas ub ua y0)) ((xar ub ua y0)) ((xaq ub ua y0)) ((ua.getD (gi y0 0).toNat []).getD 0 (0:Int))
 ((ua.getD (gi y0 0).toNat []).getD 1 (0:Int)) ((ua.getD (gi y0 0).toNat []).getD 2 (0:Int)) ((ua.getD (gi y0 0).toNat []).getD 3 (0:Int))
 ((ua.getD (gi y0 0).toNat []).getD 4 (0:Int)) ((ua.getD (gi y0 0).toNat []).getD 5 (0:Int)) ((ua.getD (gi y0 0).toNat []).getD 6 (0:Int))
 ((ua.getD (gi y0 0).toNat []).getD 7 (0:Int))
noncomputable def xsn (ub:Int) (ua:List (List Int)) (y0:List U):Int :=
 bif decide ((ua.getD (gi y0 0).toNat []).getD 0 (0:Int)=(3:Int)) then (xsp ub ua y0) else (xso ub ua y0)
noncomputable def xsm (ub:Int) (ua:List (List Int)) (y0:List U):Int :=
 bif decide ((ua.getD (gi y0 0).toNat []).getD 0 (0:Int)=(2:Int)) then (xsq ub ua y0) else (xsn ub ua y0)
noncomputable def xsl (ub:Int) (ua:List (List Int)) (y0:List U):Int :=
 bif decide ((ua.getD (gi y0 0).toNat []).getD 0 (0:Int)=(1:Int)) then (xsr ub ua y0) else (xsm ub ua y0)
noncomputable def xsk (ub:Int) (ua:List (List Int)) (y0:List U):List Int :=
 [(xth ub ua y0),(xta ub ua y0),(xs3 ub ua y0),(xsV ub ua y0),(xsO ub ua y0),(xsN ub ua y0),(xsG ub ua y0),(xsz ub ua y0),(xss ub ua y0),
 (xsl ub ua y0)]
noncomputable def xmQ (ub:Int) (ua:List (List Int)):List U :=
 [.i ((0:Int)),.r ([])]
noncomputable def xeP (ub:Int) (ua:List (List Int)) (y0:List U):Option (Nat×List U) :=
 (bif decide (gi y0 0<(↑ua.length:Int)) then xaH (inR (gi y0 0) ua) (xaH (inR (gi y0 0) ua) ((bif decide ((ua.getD (gi y0 0).toNat []).getD 3 (0:Int)>ub)==false then xaH ((([]++[((1:Int),177)]++[((2:Int),178)]++[((3:Int),179)]++[((4:Int),180)]).any fun p =>
  decide (p.fst=(ua.getD (gi y0 0).toNat []).getD 0 (0:Int))) =
 true) (xaH ((decide ((ua.getD (gi y0 0).toNat []).getD 0 (0:Int)=(1:Int))=false)→((decide ((ua.getD (gi y0 0).toNat []).getD 0 (0:Int)=(2:Int))=false)→((decide ((ua.getD (gi y0 0).toNat []).getD 0 (0:Int)=(3:Int))=false)→(((ua.getD (gi y0 0).toNat []).getD 0 (0:Int):Int)=(4:Int))))) ((bif (xtw ub ua y0) !=(0:Int) then some (0,[.i (IntKind.i64.wrap (gi y0 0+(1:Int))),.r (gr y0 1)]) else (bif bif decide ((ua.getD (gi y0 0).toNat []).getD 0 (0:Int)=(1:Int)) then
 xg3 ((xaF ub ua y0)) ((xaE ub ua y0) !=(0:Int)) ((xaD ub ua y0)) ((xaC ub ua y0)) ((xaB ub ua y0)) ((xaA ub ua y0)) ((xaz ub ua y0))
  ((xay ub ua y0) !=(0:Int)) ((xax ub ua y0)) ((xas ub ua y0)) ((xar ub ua y0)) ((xaq ub ua y0)) ((ua.getD (gi y0 0).toNat []).getD 0 (0:Int))
  ((ua.getD (gi y0 0).toNat []).getD 1 (0:Int)) ((ua.getD (gi y0 0).toNat []).getD 2 (0:Int))
  ((ua.getD (gi y0 0).toNat []).getD 3 (0:Int)) ((ua.getD (gi y0 0).toNat []).getD 4 (0:Int))
  ((ua.getD (gi y0 0).toNat []).getD 5 (0:Int)) ((ua.getD (gi y0 0).toNat []).getD 6 (0:Int))
  ((ua.getD (gi y0 0).toNat []).getD 7 (0:Int))
else
 bif decide ((ua.getD (gi y0 0).toNat []).getD 0 (0:Int)=(2:Int)) then
  xgZ ((xaF ub ua y0)) ((xaE ub ua y0) !=(0:Int)) ((xaD ub ua y0)) ((xaC ub ua y0)) ((xaB ub ua y0)) ((xaA ub ua y0)) ((xaz ub ua y0))
   ((xay ub ua y0) !=(0:Int)) ((xax ub ua y0)) ((xas ub ua y0)) ((xar ub ua y0)) ((xaq ub ua y0)) ((ua.getD (gi y0 0).toNat []).getD 0 (0:Int))
   ((ua.getD (gi y0 0).toNat []).getD 1 (0:Int)) ((ua.getD (gi y0 0).toNat []).getD 2 (0:Int))
   ((ua.getD (gi y0 0).toNat []).getD 3 (0:Int)) ((ua.getD (gi y0 0).toNat []).getD 4 (0:Int))
   ((ua.getD (gi y0 0).toNat []).getD 5 (0:Int)) ((ua.getD (gi y0 0).toNat []).getD 6 (0:Int))
   ((ua.getD (gi y0 0).toNat []).getD 7 (0:Int))
 else
  bif decide ((ua.getD (gi y0 0).toNat []).getD 0 (0:Int)=(3:Int)) then
   xgV ((xaF ub ua y0)) ((xaE ub ua y0) !=(0:Int)) ((xaD ub ua y0)) ((xaC ub ua y0)) ((xaB ub ua y0)) ((xaA ub ua y0)) ((xaz ub ua y0))
    ((xay ub ua y0) !=(0:Int)) ((xax ub ua y0)) ((xas ub ua y0)) ((xar ub ua y0)) ((xaq ub ua y0)) ((ua.getD (gi y0 0).toNat []).getD 0 (0:Int))
    ((ua.getD (gi y0 0).toNat []).getD 1 (0:Int)) ((ua.getD (gi y0 0).toNat []).getD 2 (0:Int))
    ((ua.getD (gi y0 0).toNat []).getD 3 (0:Int)) ((ua.getD (gi y0 0).toNat []).getD 4 (0:Int))
    ((ua.getD (gi y0 0).toNat []).getD 5 (0:Int)) ((ua.getD (gi y0 0).toNat []).getD 6 (0:Int))
    ((ua.getD (gi y0 0).toNat []).getD 7 (0:Int))
  else
   xgR ((xaF ub ua y0)) ((xaE ub ua y0) !=(0:Int)) ((xaD ub ua y0)) ((xaC ub ua y0)) ((xaB ub ua y0)) ((xaA ub ua y0)) ((xaz ub ua y0))
    ((xay ub ua y0) !=(0:Int)) ((xax ub ua y0)) ((xas ub ua y0)) ((xar ub ua y0)) ((xaq ub ua y0)) ((ua.getD (gi y0 0).toNat []).getD 0 (0:Int))
    ((ua.getD (gi y0 0).toNat []).getD 1 (0:Int)) ((ua.getD (gi y0 0).toNat []).getD 2 (0:Int))
    ((ua.getD (gi y0 0).toNat []).getD 3 (0:Int)) ((ua.getD (gi y0 0).toNat []).getD 4 (0:Int))
    ((ua.getD (gi y0 0).toNat []).getD 5 (0:Int)) ((ua.getD (gi y0 0).toNat []).getD 6 (0:Int))
    ((ua.getD (gi y0 0).toNat []).getD 7 (0:Int)) then some (0,[.i (IntKind.i64.wrap (gi y0 0+(1:Int))),.r (xdU 1 [(ua.getD (gi y0 0).toNat []).getD 1 (0:Int)] ((xtp ub ua y0)::(xto ub ua y0)::(xsk ub ua y0)) (gr y0 1))]) else some (0,[.i (IntKind.i64.wrap (gi y0 0+(1:Int))),.r (xiz 1 [(ua.getD (gi y0 0).toNat []).getD 1 (0:Int)] (gr y0 1))]))))) else some (4,[.r (gr y0 1)])))) else some (5,[.i (gi y0 0),.r (gr y0 1)]))
noncomputable def xfn (ub:Int) (ua:List (List Int)):Nat×List U:=xa6 (xeP ub ua) (xmQ ub ua)
noncomputable def xsj (ub:Int) (ua:List (List Int)):List (List Int) :=
 bif !xbS ua||decide (ub<(0:Int))||decide (ub>(10000000:Int)) then []
else bif (xfn ub ua).fst.beq 4 then xaZ (gr (xfn ub ua).snd 0) else xaZ (gr (xfn ub ua).snd 1)
noncomputable def xbx (ub:Int) (ua:List (List Int)):List (List Int) :=
 (xsj ub ua)
noncomputable def xdp (ub:Int) (ua:List (List Int)):Int :=
 bif !xbS ua||decide (ub<(0:Int))||decide (ub>(10000000:Int)) then (1:Int) else bif (xfn ub ua).fst.beq 4 then (0:Int) else (0:Int)
def xdN (ub:Int) (ua:List (List Int)):Prop :=
 ((xga ua)∧(((!xbS ua||decide (ub<(0:Int))||decide (ub>(10000000:Int)))=false)→(((xa5 (xeP ub ua) (xmQ ub ua)))∧((((xfn ub ua).fst.beq 4=true)→(xfN (gr (xfn ub ua).snd 0)))∧(((xfn ub ua).fst.beq 4=false)→(xfN (gr (xfn ub ua).snd 1)))))))
end Go.Proofs.YthfjhbbpdhjklaaGreat
set_option maxRecDepth 100000
set_option linter.unusedVariables false
namespace Go.Proofs.YthfjhbbpdhjklaaGreat
open Go Go.Sy
theorem xuM (ua:List (List Int)):xai Tryz.prog 1 (xaP Tryz.prog K100 xbs 9 58 [.sl 0] ⟨[⟨0,1,false,.row 83 [.int .i64,.int .i64,.int .i64,.int .i64,.int .i64,.int .i64,.int .i64,.int .i64] ua⟩],1⟩)=some ⟨some (xga ua),[],0,[],.bool (xbS ua)⟩:=by kernel_rfl
noncomputable def xnR:List U→Option Eff
 | [.r ua]=>some ⟨some (xga ua),[],0,[],.bool (xbS ua)⟩
 | _=>Option.none
noncomputable def K101:Con:=ext Tryz.prog K100 58 [.sl 0] [⟨0,0,false,.row 83 [.int .i64,.int .i64,.int .i64,.int .i64,.int .i64,.int .i64,.int .i64,.int .i64] []⟩] xnR
theorem xE6:xaT Tryz.prog K101:=xah xav xE7 (n:=9) rfl rfl fun us x h=>by
 unfold xnR at h
 split at h
 ·cases h; exact ⟨some (xga _),xuM _,fun h=>h⟩
 ·cases h
theorem xwE (vr vt:Int) (ua:List (List Int)):xai Tryz.prog 1 (xaP Tryz.prog K101 xbs 9 19 [.sl 0,.agg [.int .i64 vr,.int .i64 vt]] ⟨[⟨0,1,false,.row 165 [.int .i64,.bool,.int .i64,.int .i64,.int .i64,.int .i64,.int .i64,.bool,.int .i64,.int .i64,.int .i64,.int .i64] ua⟩],1⟩)=some ⟨some (xcR vr vt ua),[],1,[⟨1,1,true,.row 3 [.int .i64] (xcp vr vt ua)⟩],.tup [.sl 1,.int .i64 (xcP vr vt ua)]⟩:=by kernel_rfl
noncomputable def xo2:List U→Option Eff
 | [.i vr,.i vt,.r ua]=>some ⟨some (xcR vr vt ua),[],1,[⟨1,1,true,.row 3 [.int .i64] (xcp vr vt ua)⟩],.tup [.sl 1,.int .i64 (xcP vr vt ua)]⟩
 | _=>Option.none
noncomputable def K102:Con:=ext Tryz.prog K101 19 [.sl 0,.agg [.int .i64 0,.int .i64 0]] [⟨0,0,false,.row 165 [.int .i64,.bool,.int .i64,.int .i64,.int .i64,.int .i64,.int .i64,.bool,.int .i64,.int .i64,.int .i64,.int .i64] []⟩] xo2
theorem xE5:xaT Tryz.prog K102:=xah xav xE6 (n:=9) rfl rfl fun us x h=>by
 unfold xo2 at h
 split at h
 ·cases h; exact ⟨some (xcR _ _ _),xwE _ _ _,fun h=>h⟩
 ·cases h
theorem xy8 (ub:Int) (ua:List (List Int)):xai Tryz.prog 1 (xaP Tryz.prog K102 xbs 9 18 [.sl 0,.int .i64 ub] ⟨[⟨0,1,false,.row 83 [.int .i64,.int .i64,.int .i64,.int .i64,.int .i64,.int .i64,.int .i64,.int .i64] ua⟩],1⟩)=some ⟨some (xdN ub ua),[],1,[⟨1,1,true,.row 165 [.int .i64,.bool,.int .i64,.int .i64,.int .i64,.int .i64,.int .i64,.bool,.int .i64,.int .i64,.int .i64,.int .i64] (xbx ub ua)⟩],.tup [.sl 1,.int .i64 (xdp ub ua)]⟩:=by kernel_rfl
noncomputable def xtD:List U→Option Eff
 | [.i ub,.r ua]=>some ⟨some (xdN ub ua),[],1,[⟨1,1,true,.row 165 [.int .i64,.bool,.int .i64,.int .i64,.int .i64,.int .i64,.int .i64,.bool,.int .i64,.int .i64,.int .i64,.int .i64] (xbx ub ua)⟩],.tup [.sl 1,.int .i64 (xdp ub ua)]⟩
 | _=>Option.none
noncomputable def K103:Con:=ext Tryz.prog K102 18 [.sl 0,.int .i64 0] [⟨0,0,false,.row 83 [.int .i64,.int .i64,.int .i64,.int .i64,.int .i64,.int .i64,.int .i64,.int .i64] []⟩] xtD
theorem xE4:xaT Tryz.prog K103:=xah xav xE5 (n:=9) rfl rfl fun us x h=>by
 unfold xtD at h
 split at h
 ·cases h; exact ⟨some (xdN _ _),xy8 _ _,fun h=>h⟩
 ·cases h
end Go.Proofs.YthfjhbbpdhjklaaGreat
set_option maxRecDepth 100000
set_option linter.unusedVariables false
namespace Go.Proofs.YthfjhbbpdhjklaaGreat
open Go Go.Sy
noncomputable def xlK  : List Int :=
 [xak (0:Int) (0:Int) (30:Int) (40:Int) (50:Int) (0:Int) (0:Int),xaj (0:Int) (0:Int) (30:Int) (40:Int) (50:Int) (0:Int) (0:Int)]
noncomputable def xbV  : List Int :=
 xam (0:Int) (0:Int) (30:Int) (40:Int) (50:Int) (0:Int) (0:Int)::xal (0:Int) (0:Int) (30:Int) (40:Int) (50:Int) (0:Int) (0:Int)::(xlK)
noncomputable def xca  : List Int :=
 [(1:Int),(70:Int),(70:Int),(0:Int),(0:Int),(-1:Int),(1:Int),(-1:Int),(-1:Int),(20:Int)]
noncomputable def xiI  : List Int :=
 [xbC (0:Int) (0:Int) [(xbV)] xbJ [(1:Int)::(1:Int)::(50:Int)::(xca)],
 xbB (0:Int) (0:Int) [(xbV)] xbJ [(1:Int)::(1:Int)::(50:Int)::(xca)]]
noncomputable def xgd  : List Int :=
 xbE (0:Int) (0:Int) [(xbV)] xbJ [(1:Int)::(1:Int)::(50:Int)::(xca)] ::
 xbD (0:Int) (0:Int) [(xbV)] xbJ [(1:Int)::(1:Int)::(50:Int)::(xca)]::(xiI)
noncomputable def xa1  : List (List Int) :=
 [(1:Int)::(1:Int)::(3:Int)::(50:Int)::(xgd),[(3:Int),(1:Int),(4:Int),(51:Int),(0:Int),(0:Int),(0:Int),(0:Int)]]
noncomputable def xbK  : List (List Int) :=
 [(1:Int)::(1:Int)::(3:Int)::(50:Int)::(xgd),[(3:Int),(1:Int),(3:Int),(51:Int),(0:Int),(0:Int),(0:Int),(0:Int)]]
noncomputable def xbh  : Bool :=
 xbW (0:Int) (0:Int) (30:Int) (40:Int) (50:Int) (0:Int) (0:Int)==(0:Int) &&
        xbU (0:Int) (0:Int) [(xbV)] xbJ [(1:Int)::(1:Int)::(50:Int)::(xca)]==(0:Int) &&
       xdp (51:Int) ((xa1))==(0:Int) &&
      xdp (51:Int) ((xbK))==(0:Int) &&
     xcP (60:Int) (0:Int) (xbx (51:Int) ((xa1)))==(0:Int) &&
    xcP (60:Int) (0:Int) (xbx (51:Int) ((xbK)))==(0:Int) &&
   (↑(xcp (60:Int) (0:Int) (xbx (51:Int) ((xa1)))).length:Int)==(1:Int) &&
  ((xcp (60:Int) (0:Int) (xbx (51:Int) ((xa1)))).getD (Int.toNat (0:Int)) []).getD 0 (0:Int)==(1:Int) &&
 (↑(xcp (60:Int) (0:Int) (xbx (51:Int) ((xbK)))).length:Int)==(0:Int)
def xdE  : Prop :=
 ((xcZ (0:Int) (0:Int) (30:Int) (40:Int) (50:Int) (0:Int) (0:Int))∧((xdA (0:Int) (0:Int) [(xbV)] xbJ [(1:Int)::(1:Int)::(50:Int)::(xca)])∧((xdN (51:Int) ((xa1)))∧((xdN (51:Int) ((xbK)))∧((xcR (60:Int) (0:Int) (xbx (51:Int) ((xa1))))∧((xcR (60:Int) (0:Int) (xbx (51:Int) ((xbK))))∧((((xbW (0:Int) (0:Int) (30:Int) (40:Int) (50:Int) (0:Int) (0:Int)==(0:Int) &&
       xbU (0:Int) (0:Int) [(xbV)] xbJ [(1:Int)::(1:Int)::(50:Int)::(xca)]==(0:Int) &&
      xdp (51:Int) ((xa1))==(0:Int) &&
     xdp (51:Int) ((xbK))==(0:Int) &&
    xcP (60:Int) (0:Int) (xbx (51:Int) ((xa1)))==(0:Int) &&
   xcP (60:Int) (0:Int) (xbx (51:Int) ((xbK)))==(0:Int) &&
  (↑(xcp (60:Int) (0:Int) (xbx (51:Int) ((xa1)))).length:Int)==(1:Int)) =
 true)→(inR (0:Int) (xcp (60:Int) (0:Int) (xbx (51:Int) ((xa1))))))∧(((xbW (0:Int) (0:Int) (30:Int) (40:Int) (50:Int) (0:Int) (0:Int)==(0:Int) &&
       xbU (0:Int) (0:Int) [(xbV)] xbJ [(1:Int)::(1:Int)::(50:Int)::(xca)]==(0:Int) &&
      xdp (51:Int) ((xa1))==(0:Int) &&
     xdp (51:Int) ((xbK))==(0:Int) &&
    xcP (60:Int) (0:Int) (xbx (51:Int) ((xa1)))==(0:Int) &&
   xcP (60:Int) (0:Int) (xbx (51:Int) ((xbK)))==(0:Int) &&
  (↑(xcp (60:Int) (0:Int) (xbx (51:Int) ((xa1)))).length:Int)==(1:Int)) =
 true)→(inR (0:Int) (xcp (60:Int) (0:Int) (xbx (51:Int) ((xa1)))))))))))))
noncomputable def xjv (vm vn vq vp vo vk vj ul from_ uk one two:Int) (uc ud ui uh uj:List (List Int)) (y0:List U):List U :=
 [.b (false),.i ((0:Int))]
noncomputable def xju (vm vn vq vp vo vk vj ul from_ uk one two:Int) (uc ud ui uh uj:List (List Int)) (y0:List U) (y1:List U):Option (Nat×List U) :=
 (bif decide (gi y1 1<(↑ui.length:Int)) then xaH (inR (gi y1 1) ui) (xaH (inR (gi y1 1) ui) (some (0,[.b (gb y1 0||(ui.getD (gi y1 1).toNat []).getD 0 (0:Int)==gi y0 2),.i (IntKind.i64.wrap (gi y1 1+(1:Int)))]))) else some (2,[.b (gb y1 0),.i (gi y1 1)]))
noncomputable def xuo (vm vn vq vp vo vk vj ul from_ uk one two:Int) (uc ud ui uh uj:List (List Int)) (y0:List U):Nat×List U:=xa6 (xju vm vn vq vp vo vk vj ul from_ uk one two uc ud ui uh uj y0) (xjv vm vn vq vp vo vk vj ul from_ uk one two uc ud ui uh uj y0)
noncomputable def xun (vm vn vq vp vo vk vj ul from_ uk one two:Int) (uc ud ui uh uj:List (List Int)) (y0:List U):Int :=
 xfp (gi y0 1) ((ud.getD (gi y0 2).toNat []).getD 2 (0:Int)) ((uh.getD (gi y0 2).toNat []).getD 0 (0:Int))
 ((uh.getD (gi y0 2).toNat []).getD 1 (0:Int)) ((uh.getD (IntKind.i64.wrap (gi y0 2+(1:Int))).toNat []).getD 0 (0:Int))
 ((uh.getD (IntKind.i64.wrap (gi y0 2+(1:Int))).toNat []).getD 1 (0:Int)) uc
noncomputable def xum (vm vn vq vp vo vk vj ul from_ uk one two:Int) (uc ud ui uh uj:List (List Int)) (y0:List U):Int :=
 xdF ((ud.getD (gi y0 2).toNat []).getD 0 (0:Int)) ((ud.getD (gi y0 2).toNat []).getD 1 (0:Int))
 ((ud.getD (gi y0 2).toNat []).getD 2 (0:Int)) ((ud.getD (gi y0 2).toNat []).getD 3 (0:Int))
 ((ud.getD (gi y0 2).toNat []).getD 4 (0:Int)) ((ud.getD (gi y0 2).toNat []).getD 5 (0:Int))
 ((ud.getD (gi y0 2).toNat []).getD 6 (0:Int)) ((ud.getD (gi y0 2).toNat []).getD 7 (0:Int))
 ((ud.getD (gi y0 2).toNat []).getD 8 (0:Int)) ((ud.getD (gi y0 2).toNat []).getD 9 (0:Int))
 ((ud.getD (gi y0 2).toNat []).getD 10 (0:Int)) ((ud.getD (gi y0 2).toNat []).getD 11 (0:Int))
 ((ud.getD (gi y0 2).toNat []).getD 12 (0:Int)) ((uh.getD (IntKind.i64.wrap (gi y0 2+(1:Int))).toNat []).getD 0 (0:Int))
 ((uh.getD (IntKind.i64.wrap (gi y0 2+(1:Int))).toNat []).getD 1 (0:Int))
noncomputable def xgj (vm vn vq vp vo vk vj ul from_ uk one two:Int) (uc ud ui uh uj:List (List Int)):List U :=
 [.b (xcX vm vn vq vp vo ul ((uh.getD (Int.toNat (0:Int)) []).getD 0 (0:Int)) ((uh.getD (Int.toNat (0:Int)) []).getD 1 (0:Int)) ==
  (0:Int) &&
 xcY vm vn vq vp vo ul ((uh.getD (Int.toNat (0:Int)) []).getD 0 (0:Int)) ((uh.getD (Int.toNat (0:Int)) []).getD 1 (0:Int))),.i (from_),.i ((0:Int))]
noncomputable def xgi (vm vn vq vp vo vk vj ul from_ uk one two:Int) (uc ud ui uh uj:List (List Int)) (y0:List U):Option (Nat×List U) :=
 (bif decide (gi y0 2<(↑ud.length:Int)) then xaH (inR (gi y0 2) ud) (xaH (inR (gi y0 2) ud) (xaH (inR (gi y0 2) uh) (xaH (inR (gi y0 2) uh) (xaH (inR (IntKind.i64.wrap (gi y0 2+(1:Int))) uh) (xaH (inR (IntKind.i64.wrap (gi y0 2+(1:Int))) uh) (xaH (xcA (gi y0 1) ((ud.getD (gi y0 2).toNat []).getD 2 (0:Int)) ((uh.getD (gi y0 2).toNat []).getD 0 (0:Int))
 ((uh.getD (gi y0 2).toNat []).getD 1 (0:Int)) ((uh.getD (IntKind.i64.wrap (gi y0 2+(1:Int))).toNat []).getD 0 (0:Int))
 ((uh.getD (IntKind.i64.wrap (gi y0 2+(1:Int))).toNat []).getD 1 (0:Int)) uc) (xaH (inR (IntKind.i64.wrap (gi y0 2+(1:Int))) uh) (xaH (inR (IntKind.i64.wrap (gi y0 2+(1:Int))) uh) (xaH ((xa5 (xju vm vn vq vp vo vk vj ul from_ uk one two uc ud ui uh uj y0) (xjv vm vn vq vp vo vk vj ul from_ uk one two uc ud ui uh uj y0))) (some (0,[.b (gb y0 0&&(xun vm vn vq vp vo vk vj ul from_ uk one two uc ud ui uh uj y0)==(0:Int) &&
   xex (gi y0 1) ((ud.getD (gi y0 2).toNat []).getD 2 (0:Int)) ((uh.getD (gi y0 2).toNat []).getD 0 (0:Int))
    ((uh.getD (gi y0 2).toNat []).getD 1 (0:Int)) ((uh.getD (IntKind.i64.wrap (gi y0 2+(1:Int))).toNat []).getD 0 (0:Int))
    ((uh.getD (IntKind.i64.wrap (gi y0 2+(1:Int))).toNat []).getD 1 (0:Int)) uc &&
  (xum vm vn vq vp vo vk vj ul from_ uk one two uc ud ui uh uj y0)==(0:Int) &&
 (xdG ((ud.getD (gi y0 2).toNat []).getD 0 (0:Int)) ((ud.getD (gi y0 2).toNat []).getD 1 (0:Int))
   ((ud.getD (gi y0 2).toNat []).getD 2 (0:Int)) ((ud.getD (gi y0 2).toNat []).getD 3 (0:Int))
   ((ud.getD (gi y0 2).toNat []).getD 4 (0:Int)) ((ud.getD (gi y0 2).toNat []).getD 5 (0:Int))
   ((ud.getD (gi y0 2).toNat []).getD 6 (0:Int)) ((ud.getD (gi y0 2).toNat []).getD 7 (0:Int))
   ((ud.getD (gi y0 2).toNat []).getD 8 (0:Int)) ((ud.getD (gi y0 2).toNat []).getD 9 (0:Int))
   ((ud.getD (gi y0 2).toNat []).getD 10 (0:Int)) ((ud.getD (gi y0 2).toNat []).getD 11 (0:Int))
   ((ud.getD (gi y0 2).toNat []).getD 12 (0:Int)) ((uh.getD (IntKind.i64.wrap (gi y0 2+(1:Int))).toNat []).getD 0 (0:Int))
   ((uh.getD (IntKind.i64.wrap (gi y0 2+(1:Int))).toNat []).getD 1 (0:Int)) ||
  gb (xuo vm vn vq vp vo vk vj ul from_ uk one two uc ud ui uh uj y0).snd 0)),.i ((ud.getD (gi y0 2).toNat []).getD 2 (0:Int)),.i (IntKind.i64.wrap (gi y0 2+(1:Int)))]))))))))))) else some (2,[.b (gb y0 0),.i (gi y0 1),.i (gi y0 2)]))
noncomputable def xko (vm vn vq vp vo vk vj ul from_ uk one two:Int) (uc ud ui uh uj:List (List Int)):Nat×List U:=xa6 (xgi vm vn vq vp vo vk vj ul from_ uk one two uc ud ui uh uj) (xgj vm vn vq vp vo vk vj ul from_ uk one two uc ud ui uh uj)
noncomputable def xgh (vm vn vq vp vo vk vj ul from_ uk one two:Int) (uc ud ui uh uj:List (List Int)):List U :=
 [.b (false),.i ((0:Int))]
noncomputable def xcJ (vm vn vq vp vo vk vj ul from_ uk one two:Int) (uc ud ui uh uj:List (List Int)) (y2:List U):Option (Nat×List U) :=
 (bif decide (gi y2 1<(↑([]++uj).length:Int)) then xaH (inR (gi y2 1) ([]++uj)) (xaH (inR (gi y2 1) ([]++uj)) ((bif (([]++uj).getD (gi y2 1).toNat []).getD 1 (0:Int)==uk ||
 decide ((([]++uj).getD (gi y2 1).toNat []).getD 3 (0:Int)>(ud.getD (IntKind.i64.wrap ((↑ud.length:Int)-(1:Int))).toNat []).getD 2 (0:Int)) then some (1,[.b (xbh)]) else some (0,[.b (gb y2 0),.i (IntKind.i64.wrap (gi y2 1+(1:Int)))])))) else some (3,[.b (gb y2 0),.i (gi y2 1)]))
noncomputable def xdx (vm vn vq vp vo vk vj ul from_ uk one two:Int) (uc ud ui uh uj:List (List Int)):Nat×List U:=xa6 (xcJ vm vn vq vp vo vk vj ul from_ uk one two uc ud ui uh uj) (xgh vm vn vq vp vo vk vj ul from_ uk one two uc ud ui uh uj)
noncomputable def xul (vm vn vq vp vo vk vj ul from_ uk one two:Int) (uc ud ui uh uj:List (List Int)):List Int :=
 [xbC from_ (↑ui.length:Int)
  [[xam vm vn vq vp vo vk vj,xal vm vn vq vp vo vk vj,
    xak vm vn vq vp vo vk vj,xaj vm vn vq vp vo vk vj]]
  uc ud,
 xbB from_ (↑ui.length:Int)
  [[xam vm vn vq vp vo vk vj,xal vm vn vq vp vo vk vj,
    xak vm vn vq vp vo vk vj,xaj vm vn vq vp vo vk vj]]
  uc ud]
noncomputable def xuk (vm vn vq vp vo vk vj ul from_ uk one two:Int) (uc ud ui uh uj:List (List Int)):List Int :=
 xbE from_ (↑ui.length:Int)
  [[xam vm vn vq vp vo vk vj,xal vm vn vq vp vo vk vj,
    xak vm vn vq vp vo vk vj,xaj vm vn vq vp vo vk vj]]
  uc ud ::
 xbD from_ (↑ui.length:Int)
   [[xam vm vn vq vp vo vk vj,xal vm vn vq vp vo vk vj,
     xak vm vn vq vp vo vk vj,xaj vm vn vq vp vo vk vj]]
   uc ud ::
  (xul vm vn vq vp vo vk vj ul from_ uk one two uc ud ui uh uj)
noncomputable def xnx (vm vn vq vp vo vk vj ul from_ uk one two:Int) (uc ud ui uh uj:List (List Int)):List Int :=
 [uk,two,(ud.getD (IntKind.i64.wrap ((↑ud.length:Int)-(1:Int))).toNat []).getD 2 (0:Int),(0:Int),(0:Int),(0:Int),(0:Int)]
noncomputable def xbA (vm vn vq vp vo vk vj ul from_ uk one two:Int) (uc ud ui uh uj:List (List Int)):List (List Int) :=
 [(1:Int)::uk::one::(ud.getD (IntKind.i64.wrap ((↑ud.length:Int)-(1:Int))).toNat []).getD 2 (0:Int)::(xuk vm vn vq vp vo vk vj ul from_ uk one two uc ud ui uh uj),(3:Int)::(xnx vm vn vq vp vo vk vj ul from_ uk one two uc ud ui uh uj)]
noncomputable def xfW (vm vn vq vp vo vk vj ul from_ uk one two:Int) (uc ud ui uh uj:List (List Int)):Int :=
 xdp ((ud.getD (IntKind.i64.wrap ((↑ud.length:Int)-(1:Int))).toNat []).getD 2 (0:Int)) ([]++uj++(xbA vm vn vq vp vo vk vj ul from_ uk one two uc ud ui uh uj))
noncomputable def xhz (vm vn vq vp vo vk vj ul from_ uk one two:Int) (uc ud ui uh uj:List (List Int)):List (List Int) :=
 xbx ((ud.getD (IntKind.i64.wrap ((↑ud.length:Int)-(1:Int))).toNat []).getD 2 (0:Int)) ([]++uj++(xbA vm vn vq vp vo vk vj ul from_ uk one two uc ud ui uh uj))
noncomputable def xel (vm vn vq vp vo vk vj ul from_ uk one two:Int) (uc ud ui uh uj:List (List Int)):List (List Int) :=
 xcp ((uh.getD (IntKind.i64.wrap ((↑uh.length:Int)-(1:Int))).toNat []).getD 0 (0:Int))
 ((uh.getD (IntKind.i64.wrap ((↑uh.length:Int)-(1:Int))).toNat []).getD 1 (0:Int)) ((xhz vm vn vq vp vo vk vj ul from_ uk one two uc ud ui uh uj))
noncomputable def xgg (vm vn vq vp vo vk vj ul from_ uk one two:Int) (uc ud ui uh uj:List (List Int)):List U :=
 [.b (false),.i ((0:Int))]
noncomputable def xcI (vm vn vq vp vo vk vj ul from_ uk one two:Int) (uc ud ui uh uj:List (List Int)) (y3:List U):Option (Nat×List U) :=
 (bif decide (gi y3 1<(↑((xel vm vn vq vp vo vk vj ul from_ uk one two uc ud ui uh uj)).length:Int)) then xaH (inR (gi y3 1) ((xel vm vn vq vp vo vk vj ul from_ uk one two uc ud ui uh uj))) (xaH (inR (gi y3 1) ((xel vm vn vq vp vo vk vj ul from_ uk one two uc ud ui uh uj))) (some (0,[.b (gb y3 0||(((xel vm vn vq vp vo vk vj ul from_ uk one two uc ud ui uh uj)).getD (gi y3 1).toNat []).getD 0 (0:Int)==uk),.i (IntKind.i64.wrap (gi y3 1+(1:Int)))]))) else some (2,[.b (gb y3 0),.i (gi y3 1)]))
noncomputable def xhA (vm vn vq vp vo vk vj ul from_ uk one two:Int) (uc ud ui uh uj:List (List Int)):Nat×List U:=xa6 (xcI vm vn vq vp vo vk vj ul from_ uk one two uc ud ui uh uj) (xgg vm vn vq vp vo vk vj ul from_ uk one two uc ud ui uh uj)
noncomputable def xfV (vm vn vq vp vo vk vj ul from_ uk one two:Int) (uc ud ui uh uj:List (List Int)):Int :=
 xhq
 (xbE from_ (↑ui.length:Int)
  [[xam vm vn vq vp vo vk vj,xal vm vn vq vp vo vk vj,
    xak vm vn vq vp vo vk vj,xaj vm vn vq vp vo vk vj]]
  uc ud)
 (xbD from_ (↑ui.length:Int)
  [[xam vm vn vq vp vo vk vj,xal vm vn vq vp vo vk vj,
    xak vm vn vq vp vo vk vj,xaj vm vn vq vp vo vk vj]]
  uc ud)
 (xbC from_ (↑ui.length:Int)
  [[xam vm vn vq vp vo vk vj,xal vm vn vq vp vo vk vj,
    xak vm vn vq vp vo vk vj,xaj vm vn vq vp vo vk vj]]
  uc ud)
 (xbB from_ (↑ui.length:Int)
  [[xam vm vn vq vp vo vk vj,xal vm vn vq vp vo vk vj,
    xak vm vn vq vp vo vk vj,xaj vm vn vq vp vo vk vj]]
  uc ud)
noncomputable def xcU (vm vn vq vp vo vk vj ul from_ uk one two:Int) (uc ud ui uh uj:List (List Int)):List (List Int) :=
 xjA
 (xbE from_ (↑ui.length:Int)
  [[xam vm vn vq vp vo vk vj,xal vm vn vq vp vo vk vj,
    xak vm vn vq vp vo vk vj,xaj vm vn vq vp vo vk vj]]
  uc ud)
 (xbD from_ (↑ui.length:Int)
  [[xam vm vn vq vp vo vk vj,xal vm vn vq vp vo vk vj,
    xak vm vn vq vp vo vk vj,xaj vm vn vq vp vo vk vj]]
  uc ud)
 (xbC from_ (↑ui.length:Int)
  [[xam vm vn vq vp vo vk vj,xal vm vn vq vp vo vk vj,
    xak vm vn vq vp vo vk vj,xaj vm vn vq vp vo vk vj]]
  uc ud)
 (xbB from_ (↑ui.length:Int)
  [[xam vm vn vq vp vo vk vj,xal vm vn vq vp vo vk vj,
    xak vm vn vq vp vo vk vj,xaj vm vn vq vp vo vk vj]]
  uc ud)
noncomputable def xgE (vm vn vq vp vo vk vj ul from_ uk one two:Int) (uc ud ui uh uj:List (List Int)):Int :=
 xcP ((uh.getD (IntKind.i64.wrap ((↑uh.length:Int)-(1:Int))).toNat []).getD 0 (0:Int))
 ((uh.getD (IntKind.i64.wrap ((↑uh.length:Int)-(1:Int))).toNat []).getD 1 (0:Int)) ((xhz vm vn vq vp vo vk vj ul from_ uk one two uc ud ui uh uj))
noncomputable def xjt (vm vn vq vp vo vk vj ul from_ uk one two:Int) (uc ud ui uh uj:List (List Int)):Int :=
 bif
  !(xdy ((xcU vm vn vq vp vo vk vj ul from_ uk one two uc ud ui uh uj))&&((0:Int)==(0:Int)&&((0:Int)==(0:Int)&&true))&&(0:Int)==(0:Int)&&(↑0:Int)==(0:Int)) ||
   !xaG ((uh.getD (IntKind.i64.wrap ((↑uh.length:Int)-(1:Int))).toNat []).getD 0 (0:Int))
     ((uh.getD (IntKind.i64.wrap ((↑uh.length:Int)-(1:Int))).toNat []).getD 1 (0:Int)) then
 (1:Int)
else (0:Int)
noncomputable def xjs (vm vn vq vp vo vk vj ul from_ uk one two:Int) (uc ud ui uh uj:List (List Int)):Int :=
 xmp ((uh.getD (IntKind.i64.wrap ((↑uh.length:Int)-(1:Int))).toNat []).getD 0 (0:Int))
 ((uh.getD (IntKind.i64.wrap ((↑uh.length:Int)-(1:Int))).toNat []).getD 1 (0:Int)) ((xcU vm vn vq vp vo vk vj ul from_ uk one two uc ud ui uh uj))
noncomputable def xjr (vm vn vq vp vo vk vj ul from_ uk one two:Int) (uc ud ui uh uj:List (List Int)):Int :=
 xmq ((uh.getD (IntKind.i64.wrap ((↑uh.length:Int)-(1:Int))).toNat []).getD 0 (0:Int))
 ((uh.getD (IntKind.i64.wrap ((↑uh.length:Int)-(1:Int))).toNat []).getD 1 (0:Int)) ((xcU vm vn vq vp vo vk vj ul from_ uk one two uc ud ui uh uj))
noncomputable def xgF (vm vn vq vp vo vk vj ul from_ uk one two:Int) (uc ud ui uh uj:List (List Int)):Bool :=
 bif
  (↑ud.length:Int)==(0:Int)||decide ((↑ud.length:Int)>(8:Int))||decide ((↑ui.length:Int)>(3:Int))||decide ((↑uh.length:Int)>(9:Int)) ||
      decide ((↑uc.length:Int)>(12:Int)) ||
     decide ((↑uj.length:Int)>(20:Int)) ||
    decide (ul<vk) ||
   decide (ul>vj) then
 xbh
else
 bif
   xbW vm vn vq vp vo vk vj !=(0:Int) ||
    !bif (↑uh.length:Int) !=IntKind.i64.wrap ((↑ud.length:Int)+(1:Int)) then false else gb (xko vm vn vq vp vo vk vj ul from_ uk one two uc ud ui uh uj).snd 0 then
  xbh
 else
  bif
    xbU from_ (↑ui.length:Int)
      [[xam vm vn vq vp vo vk vj,xal vm vn vq vp vo vk vj,
        xak vm vn vq vp vo vk vj,xaj vm vn vq vp vo vk vj]]
      uc ud !=
     (0:Int) then
   xbh
  else
   bif (xdx vm vn vq vp vo vk vj ul from_ uk one two uc ud ui uh uj).fst.beq 1 then gb (xdx vm vn vq vp vo vk vj ul from_ uk one two uc ud ui uh uj).snd 0
   else
    bif (xfW vm vn vq vp vo vk vj ul from_ uk one two uc ud ui uh uj) !=(0:Int) then xbh&&(xfW vm vn vq vp vo vk vj ul from_ uk one two uc ud ui uh uj)==(1:Int)
    else
     bif (xfV vm vn vq vp vo vk vj ul from_ uk one two uc ud ui uh uj) !=(0:Int) then xbh&&(xgE vm vn vq vp vo vk vj ul from_ uk one two uc ud ui uh uj)==(0:Int)&&gb (xhA vm vn vq vp vo vk vj ul from_ uk one two uc ud ui uh uj).snd 0==(one !=two)&&(xfV vm vn vq vp vo vk vj ul from_ uk one two uc ud ui uh uj)==(4:Int)
     else
      xbh&&(xgE vm vn vq vp vo vk vj ul from_ uk one two uc ud ui uh uj)==(0:Int)&&gb (xhA vm vn vq vp vo vk vj ul from_ uk one two uc ud ui uh uj).snd 0==(one !=two)&&(xjt vm vn vq vp vo vk vj ul from_ uk one two uc ud ui uh uj)==(0:Int) &&
       bif
         !(xdy ((xcU vm vn vq vp vo vk vj ul from_ uk one two uc ud ui uh uj))&&((0:Int)==(0:Int)&&((0:Int)==(0:Int)&&true))&&(0:Int)==(0:Int)&&(↑0:Int)==(0:Int)) ||
          !xaG ((uh.getD (IntKind.i64.wrap ((↑uh.length:Int)-(1:Int))).toNat []).getD 0 (0:Int))
            ((uh.getD (IntKind.i64.wrap ((↑uh.length:Int)-(1:Int))).toNat []).getD 1 (0:Int)) then
        false
       else (xjs vm vn vq vp vo vk vj ul from_ uk one two uc ud ui uh uj)==(0:Int)&&decide ((xjr vm vn vq vp vo vk vj ul from_ uk one two uc ud ui uh uj)≥(0:Int))
def xeF (vm vn vq vp vo vk vj ul from_ uk one two:Int) (uc ud ui uh uj:List (List Int)):Prop :=
 ((xdE)∧((((↑ud.length:Int)==(0:Int)||decide ((↑ud.length:Int)>(8:Int))||decide ((↑ui.length:Int)>(3:Int))||decide ((↑uh.length:Int)>(9:Int)) ||
     decide ((↑uc.length:Int)>(12:Int)) ||
    decide ((↑uj.length:Int)>(20:Int)) ||
   decide (ul<vk) ||
  decide (ul>vj)) =
 false)→((xcZ vm vn vq vp vo vk vj)∧((((xbW vm vn vq vp vo vk vj !=(0:Int))=false)→((((↑uh.length:Int) !=IntKind.i64.wrap ((↑ud.length:Int)+(1:Int)))=false)→((inR (0:Int) uh)∧((inR (0:Int) uh)∧((xa5 (xgi vm vn vq vp vo vk vj ul from_ uk one two uc ud ui uh uj) (xgj vm vn vq vp vo vk vj ul from_ uk one two uc ud ui uh uj)))))))∧(((xbW vm vn vq vp vo vk vj !=(0:Int) ||
  !bif (↑uh.length:Int) !=IntKind.i64.wrap ((↑ud.length:Int)+(1:Int)) then false else gb (xko vm vn vq vp vo vk vj ul from_ uk one two uc ud ui uh uj).snd 0) =
 false)→((xdA from_ (↑ui.length:Int)
 [[xam vm vn vq vp vo vk vj,xal vm vn vq vp vo vk vj,
   xak vm vn vq vp vo vk vj,xaj vm vn vq vp vo vk vj]]
 uc ud)∧(((xbU from_ (↑ui.length:Int)
   [[xam vm vn vq vp vo vk vj,xal vm vn vq vp vo vk vj,
     xak vm vn vq vp vo vk vj,xaj vm vn vq vp vo vk vj]]
   uc ud !=
  (0:Int)) =
 false)→((inR (IntKind.i64.wrap ((↑ud.length:Int)-(1:Int))) ud)∧((inR (IntKind.i64.wrap ((↑ud.length:Int)-(1:Int))) ud)∧((inR (IntKind.i64.wrap ((↑ud.length:Int)-(1:Int))) ud)∧((xdo 64 (0+uj.length))∧(((xa5 (xcJ vm vn vq vp vo vk vj ul from_ uk one two uc ud ui uh uj) (xgh vm vn vq vp vo vk vj ul from_ uk one two uc ud ui uh uj)))∧(((xdx vm vn vq vp vo vk vj ul from_ uk one two uc ud ui uh uj).fst.beq 1=false)→((xdo 64 (([]++uj).length+((xbA vm vn vq vp vo vk vj ul from_ uk one two uc ud ui uh uj)).length))∧((xdN ((ud.getD (IntKind.i64.wrap ((↑ud.length:Int)-(1:Int))).toNat []).getD 2 (0:Int)) ([]++uj++(xbA vm vn vq vp vo vk vj ul from_ uk one two uc ud ui uh uj)))∧((((xfW vm vn vq vp vo vk vj ul from_ uk one two uc ud ui uh uj) !=(0:Int))=false)→((inR (IntKind.i64.wrap ((↑uh.length:Int)-(1:Int))) uh)∧((inR (IntKind.i64.wrap ((↑uh.length:Int)-(1:Int))) uh)∧((xcR ((uh.getD (IntKind.i64.wrap ((↑uh.length:Int)-(1:Int))).toNat []).getD 0 (0:Int))
 ((uh.getD (IntKind.i64.wrap ((↑uh.length:Int)-(1:Int))).toNat []).getD 1 (0:Int)) ((xhz vm vn vq vp vo vk vj ul from_ uk one two uc ud ui uh uj)))∧(((xa5 (xcI vm vn vq vp vo vk vj ul from_ uk one two uc ud ui uh uj) (xgg vm vn vq vp vo vk vj ul from_ uk one two uc ud ui uh uj)))∧((((xfV vm vn vq vp vo vk vj ul from_ uk one two uc ud ui uh uj) !=(0:Int))=false)→((xfk ((xcU vm vn vq vp vo vk vj ul from_ uk one two uc ud ui uh uj)))∧(((!(xdy ((xcU vm vn vq vp vo vk vj ul from_ uk one two uc ud ui uh uj))&&((0:Int)==(0:Int)&&((0:Int)==(0:Int)&&true))&&(0:Int)==(0:Int)&&(↑0:Int)==(0:Int)) ||
  !xaG ((uh.getD (IntKind.i64.wrap ((↑uh.length:Int)-(1:Int))).toNat []).getD 0 (0:Int))
    ((uh.getD (IntKind.i64.wrap ((↑uh.length:Int)-(1:Int))).toNat []).getD 1 (0:Int))) =
 false)→(xjB ((uh.getD (IntKind.i64.wrap ((↑uh.length:Int)-(1:Int))).toNat []).getD 0 (0:Int))
 ((uh.getD (IntKind.i64.wrap ((↑uh.length:Int)-(1:Int))).toNat []).getD 1 (0:Int)) ((xcU vm vn vq vp vo vk vj ul from_ uk one two uc ud ui uh uj))))))))))))))))))))))))))
end Go.Proofs.YthfjhbbpdhjklaaGreat
set_option maxRecDepth 100000
set_option linter.unusedVariables false
namespace Go.Proofs.YthfjhbbpdhjklaaGreat
open Go Go.Sy
theorem xpp  : xai Tryz.prog 0 (xaP Tryz.prog K103 xbs 12 14 [] ⟨[],0⟩)=some ⟨some (xdE),[],0,[],.bool (xbh)⟩:=by kernel_rfl
noncomputable def xkC:List U→Option Eff
 | []=>some ⟨some (xdE),[],0,[],.bool (xbh)⟩
 | _=>Option.none
noncomputable def K104:Con:=ext Tryz.prog K103 14 [] [] xkC
theorem xE3:xaT Tryz.prog K104:=xah xav xE4 (n:=12) rfl rfl fun us x h=>by
 unfold xkC at h
 split at h
 ·cases h; exact ⟨some (xdE),xpp,fun h=>h⟩
 ·cases h
theorem xrr (vm vn vq vp vo vk vj ul from_ uk one two:Int) (uc ud ui uh uj:List (List Int)):xai Tryz.prog 5 (xaP Tryz.prog K104 xbs 12 4 [.agg [.int .i64 vm,.int .i64 vn,.int .i64 vq,.int .i64 vp,.int .i64 vo],.agg [.int .i64 vk,.int .i64 vj],.int .i64 ul,.sl 0,.int .i64 from_,.sl 1,.sl 2,.sl 3,.sl 4,.int .i64 uk,.int .i64 one,.int .i64 two] ⟨[⟨0,5,false,.row 213 [.int .i64,.int .i64,.int .i64,.int .i64,.int .i64,.int .i64] uc⟩,⟨1,5,false,.row 81 [.int .i64,.int .i64,.int .i64,.int .i64,.int .i64,.int .i64,.int .i64,.int .i64,.int .i64,.int .i64,.int .i64,.int .i64,.int .i64] ud⟩,⟨2,5,false,.row 3 [.int .i64] ui⟩,⟨3,5,false,.row 33 [.int .i64,.int .i64] uh⟩,⟨4,5,false,.row 83 [.int .i64,.int .i64,.int .i64,.int .i64,.int .i64,.int .i64,.int .i64,.int .i64] uj⟩],5⟩)=some ⟨some (xeF vm vn vq vp vo vk vj ul from_ uk one two uc ud ui uh uj),[],0,[],.bool (xgF vm vn vq vp vo vk vj ul from_ uk one two uc ud ui uh uj)⟩:=by kernel_rfl
noncomputable def xl5:List U→Option Eff
 | [.i vm,.i vn,.i vq,.i vp,.i vo,.i vk,.i vj,.i ul,.i from_,.i uk,.i one,.i two,.r uc,.r ud,.r ui,.r uh,.r uj]=>some ⟨some (xeF vm vn vq vp vo vk vj ul from_ uk one two uc ud ui uh uj),[],0,[],.bool (xgF vm vn vq vp vo vk vj ul from_ uk one two uc ud ui uh uj)⟩
 | _=>Option.none
noncomputable def K105:Con:=ext Tryz.prog K104 4 [.agg [.int .i64 0,.int .i64 0,.int .i64 0,.int .i64 0,.int .i64 0],.agg [.int .i64 0,.int .i64 0],.int .i64 0,.sl 0,.int .i64 0,.sl 1,.sl 2,.sl 3,.sl 4,.int .i64 0,.int .i64 0,.int .i64 0] [⟨0,0,false,.row 213 [.int .i64,.int .i64,.int .i64,.int .i64,.int .i64,.int .i64] []⟩,⟨1,0,false,.row 81 [.int .i64,.int .i64,.int .i64,.int .i64,.int .i64,.int .i64,.int .i64,.int .i64,.int .i64,.int .i64,.int .i64,.int .i64,.int .i64] []⟩,⟨2,0,false,.row 3 [.int .i64] []⟩,⟨3,0,false,.row 33 [.int .i64,.int .i64] []⟩,⟨4,0,false,.row 83 [.int .i64,.int .i64,.int .i64,.int .i64,.int .i64,.int .i64,.int .i64,.int .i64] []⟩] xl5
theorem xE2:xaT Tryz.prog K105:=xah xav xE3 (n:=12) rfl rfl fun us x h=>by
 unfold xl5 at h
 split at h
 ·cases h; exact ⟨some (xeF _ _ _ _ _ _ _ _ _ _ _ _ _ _ _ _ _),xrr _ _ _ _ _ _ _ _ _ _ _ _ _ _ _ _ _,fun h=>h⟩
 ·cases h
end Go.Proofs.YthfjhbbpdhjklaaGreat
set_option linter.unusedVariables false
set_option linter.unusedSimpArgs false
set_option maxRecDepth 100000
set_option maxHeartbeats 4000000
namespace Go.Proofs.YthfjhbbpdhjklaaGreat
open Go Go.Sy
def b01 (v:Int):Int:=bif v !=0 then 1 else 0
def eqBx (a b c d e f g h:Int):Bool:=a==e&&(b==f&&true)&&(c==g&&(d==h&&true)&&true)
def xmX (x a:List Int):List Int×Bool×Int :=
 bif decide (a.getD 0 0=1) then
  (bif x.getD 6 0 !=0 then (dgN x,true,6) else bif (x.getD 1 0 !=0)&&eqBx (x.getD 2 0) (x.getD 3 0) (x.getD 4 0) (x.getD 5 0) (a.getD 4 0) (a.getD 5 0) (a.getD 6 0) (a.getD 7 0) then (dgN x,true,5)
   else ([a.getD 1 0,b01 (x.getD 1 0),x.getD 2 0,x.getD 3 0,x.getD 4 0,x.getD 5 0,a.getD 2 0,b01 (x.getD 7 0),a.getD 4 0,a.getD 5 0,a.getD 6 0,a.getD 7 0],true,0))
 else bif decide (a.getD 0 0=2) then
  (bif !(x.getD 1 0 !=0) then (dgN x,true,4) else bif x.getD 6 0 !=0 then (dgN x,true,6)
   else ([x.getD 0 0,b01 (x.getD 1 0),x.getD 2 0,x.getD 3 0,x.getD 4 0,x.getD 5 0,a.getD 2 0,1,x.getD 8 0,x.getD 9 0,x.getD 10 0,x.getD 11 0],true,0))
 else bif decide (a.getD 0 0=3) then
  (bif x.getD 6 0==0 then (dgN x,true,4) else bif x.getD 6 0==a.getD 2 0 then (dgN x,true,21)
   else ([x.getD 0 0,1,x.getD 8 0,x.getD 9 0,x.getD 10 0,x.getD 11 0,0,0,0,0,0,0],!(x.getD 7 0 !=0),0))
 else (bif x.getD 6 0==0 then (dgN x,true,4) else ([x.getD 0 0,b01 (x.getD 1 0),x.getD 2 0,x.getD 3 0,x.getD 4 0,x.getD 5 0,0,0,0,0,0,0],x.getD 1 0 !=0,0))
def actR (rows:List (List Int)) (a:List Int):List (List Int) :=
 bif (xmX ((xaO 1 [a.getD 1 0] rows).getD dgZ) a).2.2 !=0 then rows
 else bif (xmX ((xaO 1 [a.getD 1 0] rows).getD dgZ) a).2.1 then xdU 1 [a.getD 1 0] (xmX ((xaO 1 [a.getD 1 0] rows).getD dgZ) a).1 rows
 else xiz 1 [a.getD 1 0] rows
theorem xEY (ub:Int) (ua:List (List Int)) (i:Nat) (rows:List (List Int)) (hi:i<ua.length) (hl:ua.length<4611686018427387904) (ht:(ua.getD i []).getD 3 0≤ub)
  (hk:(ua.getD i []).getD 0 0=1∨(ua.getD i []).getD 0 0=2∨(ua.getD i []).getD 0 0=3∨(ua.getD i []).getD 0 0=4) :
  xeP ub ua [.i i,.r rows]=some (0,[.i ((i+1:Nat):Int),.r (actR rows (ua.getD i []))]):=by
 have hz:((0:Int)::(bif false then (1:Int) else (0:Int))::xdH ub ua)=dgZ:=rfl
 have h0:decide ((ua.getD i []).getD 3 0>ub)=false:=decide_eq_false (by omega)
 unfold xeP
 simp only [xaF,xaE,xaD,xaC,xaB,xaA,xaz,xay,xax,xas,xar,xaq,xtC,xtB,xtA,xtz,xty,xtx,xtw,xtv,xtu,xtt,xts,xtr,xtq,xtp,xto,xtn,xtm,xtl,xtk,xtj,xti,xth,xtg,xtf,xte,xtd,xtc,xtb,xta,xs9,xs8,xs7,xs6,xs5,xs4,xs3,xs2,xs1,xsZ,xsY,xsX,xsW,xsV,xsU,xsT,xsS,xsR,xsQ,xsP,xsO,xsN,xsM,xsL,xsK,xsJ,xsI,xsH,xsG,xsF,xsE,xsD,xsC,xsB,xsA,xsz,xsy,xsx,xsw,xsv,xsu,xst,xss,xsr,xsq,xsp,xso,xsn,xsm,xsl,xsk,hz,gi_z,gr_1,gr_z,Int.toNat_natCast]
 rw [dlt hi,xaa (xey hi),xaa (xey hi),h0,xbQ (by omega)]
 generalize ua.getD i []=a at hk h0 ⊢
 unfold actR xmX b01
 generalize (xaO 1 [a.getD 1 0] rows).getD dgZ=x
 rw [show (false==false)=true from rfl,cond_true]
 rcases hk with h | h | h | h
 ·have e:∀ j:Int,decide (a.getD 0 0=j)=decide ((1:Int)=j):=fun j=>by rw [h]
  rw [xaa (by rw [h]; decide),xaa (by rw [h]; decide)]
  simp only [e,show decide ((1:Int)=1)=true from rfl,show decide ((1:Int)=2)=false from rfl,show decide ((1:Int)=3)=false from rfl,cond_true,cond_false,xig,xif,xie,xid,xic,xib,xia,xh9,xh8,xh7,xg5,xg4,xg3,xg2]
  cases h1:(x.getD 6 0 !=0)
  ·cases h2:((x.getD 1 0 !=0)&&eqBx (x.getD 2 0) (x.getD 3 0) (x.getD 4 0) (x.getD 5 0) (a.getD 4 0) (a.getD 5 0) (a.getD 6 0) (a.getD 7 0))
   ·unfold eqBx at h2; simp only [h2,cond_false]; rfl
   ·unfold eqBx at h2; simp only [h2,cond_true,cond_false]; rfl
  ·simp only [cond_true]; rfl
 ·have e:∀ j:Int,decide (a.getD 0 0=j)=decide ((2:Int)=j):=fun j=>by rw [h]
  rw [xaa (by rw [h]; decide),xaa (by rw [h]; decide)]
  simp only [e,show decide ((2:Int)=1)=false from rfl,show decide ((2:Int)=2)=true from rfl,show decide ((2:Int)=3)=false from rfl,cond_true,cond_false,xh6,xh5,xh4,xh3,xh2,xh1,xh0,xhZ,xhY,xhX,xg1,xg0,xgZ,xgY]
  cases h1:(x.getD 1 0 !=0)
  ·simp only [Bool.not_false,cond_true]; rfl
  ·cases h2:(x.getD 6 0 !=0)
   ·simp only [Bool.not_true,cond_false,decide_true]; rfl
   ·simp only [Bool.not_true,cond_true,cond_false,decide_true]; rfl
 ·have e:∀ j:Int,decide (a.getD 0 0=j)=decide ((3:Int)=j):=fun j=>by rw [h]
  rw [xaa (by rw [h]; decide),xaa (by rw [h]; decide)]
  simp only [e,show decide ((3:Int)=1)=false from rfl,show decide ((3:Int)=2)=false from rfl,show decide ((3:Int)=3)=true from rfl,cond_true,cond_false,xhW,xhV,xhU,xhT,xhS,xhR,xhQ,xhP,xhO,xhN,xgX,xgW,xgV,xgU]
  cases h1:(x.getD 6 0==0)
  ·cases h2:(x.getD 6 0==a.getD 2 0)
   ·cases h3:(x.getD 7 0 !=0)
    ·simp only [cond_false,Bool.not_false]; rfl
    ·simp only [cond_false,Bool.not_true]; rfl
   ·simp only [cond_true,cond_false]; rfl
  ·simp only [cond_true]; rfl
 ·have e:∀ j:Int,decide (a.getD 0 0=j)=decide ((4:Int)=j):=fun j=>by rw [h]
  rw [xaa (by rw [h]; decide),xaa (by rw [h]; decide)]
  simp only [e,show decide ((4:Int)=1)=false from rfl,show decide ((4:Int)=2)=false from rfl,show decide ((4:Int)=3)=false from rfl,cond_true,cond_false,xhM,xhL,xhK,xhJ,xhI,xhH,xhG,xhF,xhE,xhD,xgT,xgS,xgR,xgQ]
  cases h1:(x.getD 6 0==0)
  ·cases h3:(x.getD 1 0 !=0)
   ·simp only [cond_false]; rfl
   ·simp only [cond_false]; rfl
  ·simp only [cond_true]; rfl
end Go.Proofs.YthfjhbbpdhjklaaGreat
