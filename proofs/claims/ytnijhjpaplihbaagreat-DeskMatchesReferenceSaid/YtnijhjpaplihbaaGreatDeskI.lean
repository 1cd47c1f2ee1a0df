/- Parts of other texts (wip/strip.py). -/
import Derived.Test.YtnijhjpaplihbaaGreatDeskG
import Derived.Test.YtnijhjpaplihbaaGreatDesk4D
import Derived.Test.YtnijhjpaplihbaaGreatSyH
set_option linter.unusedVariables false
set_option maxRecDepth 100000
set_option linter.unusedSimpArgs false
set_option linter.unusedSectionVars false
namespace Go.Proofs.YtnijhjpaplihbaaGreat
open Go Go.Sy
def hB : List (List Int) := [[0, 10, 0, 10]]
def hF : List (List Int) := [[0, 100, 0, 0, 0, 0]]
def hR2 : List (List Int) := [[1, 1, 5, 1, 2, 3, 2, 3, 1, 0, 0, 1, 0], [1, 2, 5, 1, 3, 9, 3, 3, 1, 0, 0, 1, 0]]
def hR3 : List (List Int) := [[1, 1, 5, 1, 2, 3, 2, 3, 1, 0, 0, 1, 0], [1, 2, 5, 1, 3, 9, 3, 3, 1, 0, 0, 1, 0], [1, 3, 5, 1, 20, 30, 0, 10, 1, 0, 0, 1, 0]]
def hRR : List (List Int) := [[1, 1, 5, 1, 2, 3, 2, 3, 1, 0, 0, 1, 0], [1, 1, 5, 1, 2, 3, 2, 3, 1, 0, 0, 1, 0]]
def hT : List (List Int) := [[3, 3], [3, 3], [3, 3], [3, 3]]
def elB : List CK → List Int → Bool
 | [], [] => true
 | .int k :: ks, n :: ns => (Lit.int k n).wf && elB ks ns
 | .bool :: ks, n :: ns => decide (n = 0 ∨ n = 1) && elB ks ns
 | _, _ => false
theorem xBC : ∀ {ks : List CK} {ns : List Int}, elB ks ns = true → elOk ks ns
 | [], [], _ => trivial
 | .int k :: ks, n :: ns, h => by
  unfold elB at h; unfold elOk
  rw [Bool.and_eq_true] at h
  exact ⟨h.1, xBC h.2⟩
 | .bool :: ks, n :: ns, h => by
  unfold elB at h; unfold elOk
  rw [Bool.and_eq_true, decide_eq_true_eq] at h
  exact ⟨h.1, xBC h.2⟩
 | [], _ :: _, h => by cases h
 | .int _ :: _, [], h => by cases h
 | .bool :: _, [], h => by cases h
theorem xBp {l : List (List Int)} (h : l.all (elB [.int .i64, .int .i64, .int .i64, .int .i64, .int .i64, .int .i64, .int .i64, .int .i64, .int .i64, .int .i64, .int .i64, .int .i64, .int .i64]) = true) : Si.El13 l :=
 fun e he => xBC (List.all_eq_true.1 h e he)
theorem xDC : Si.El13 hR2 := xBp (by decide +kernel)
theorem xz2 : Si.El13 hR3 := xBp (by decide +kernel)
theorem xEl : Si.El13 hRR := xBp (by decide +kernel)
theorem gs2 : GS 0 hB hF hR2 := ⟨by decide +kernel, by decide +kernel, by decide, by decide +kernel, by decide, by decide⟩
theorem gs3 : GS 0 hB hF hR3 := ⟨by decide +kernel, by decide +kernel, by decide, by decide +kernel, by decide, by decide⟩
theorem gsR : GS 0 hB hF hRR := ⟨by decide +kernel, by decide +kernel, by decide, by decide +kernel, by decide, by decide⟩
theorem xpw {rp : List (List Int)} (h13 : Si.El13 rp) (h1 : ∀ r ∈ rp, RVr r) (h2 : rp.length ≤ 60) : (xa9 rp).length = (Si.mrgs 0 rp ([], [])).1.length := by
 rw [(Si.xB1 rp h13).1, (xkU rp).2 ⟨h2, h1⟩]
 rfl
theorem sv2 : svE 0 hB hF hR2 = 0 := by
 rcases xjh 0 hB hF hR2 with ⟨_, k⟩ | ⟨_, g, k⟩ | ⟨e, _⟩
 ·exact absurd gs2 k
 ·rw [xpw xDC g.rv g.ln] at k; exact absurd k (by decide +kernel)
 ·exact e
theorem sv3 : svE 0 hB hF hR3 = 0 := by
 rcases xjh 0 hB hF hR3 with ⟨_, k⟩ | ⟨_, g, k⟩ | ⟨e, _⟩
 ·exact absurd gs3 k
 ·rw [xpw xz2 g.rv g.ln] at k; exact absurd k (by decide +kernel)
 ·exact e
theorem svR : svE 0 hB hF hRR = 5 := by
 rcases xjh 0 hB hF hRR with ⟨_, k⟩ | ⟨e, _⟩ | ⟨_, g, k⟩
 ·exact absurd gsR k
 ·exact e
 ·rw [xpw xEl g.rv g.ln] at k; exact absurd (by decide +kernel) k
theorem hf1 : hF.length ≤ 9223372036854775807 := by decide
theorem xGm : xbx 0 hB hF hR2 [] ∧ xbw 0 hB hF hR2 [] = 0 ∧ xcb 0 hB hF hR2 [] = [[3, 3, 3, 3]] := by
 obtain ⟨h1, h2, h3⟩ := xpC 0 hB hF hR2 [] xDC hf1 (by decide)
 refine ⟨h1, h2.trans ?_, h3.trans ?_⟩
 ·unfold fE; rw [sv2, if_neg (by decide), if_neg (by decide)]; decide +kernel
 ·unfold fL; rw [sv2, if_pos (by decide)]; decide +kernel
theorem xGl : xbx 0 hB hF hR3 [] ∧ xbw 0 hB hF hR3 [] = 18 := by
 obtain ⟨h1, h2, h3⟩ := xpC 0 hB hF hR3 [] xz2 hf1 (by decide)
 refine ⟨h1, h2.trans ?_⟩
 unfold fE; rw [sv3, if_neg (by decide), if_neg (by decide)]; decide +kernel
theorem xGk : xbx 0 hB hF hRR [] ∧ xbw 0 hB hF hRR [] = 5 := by
 obtain ⟨h1, h2, h3⟩ := xpC 0 hB hF hRR [] xEl hf1 (by decide)
 refine ⟨h1, h2.trans ?_⟩
 unfold fE; rw [svR, if_neg (by decide), if_pos (by decide)]
theorem xEk : exR 0 1 hB hF hR3 = ([[2]], [[3, 3, 3, 3]], 0) := by
 have ha : askE 0 1 hB hF hR3 = 0 := xBQ sv3 (by decide) (by decide) (by decide)
 have hfi : (alls hR3.length ((1 : Int).toNat + 1)).find? (fun w => (lw 0 hB hF hR3 w).1 != 18) = some [[2]] := by decide +kernel
 unfold exR
 rw [ha, if_neg (by decide), hfi]
 decide +kernel
theorem xEj : exR 0 0 hB hF hR3 = ([], [], 18) := by
 have ha : askE 0 0 hB hF hR3 = 0 := xBQ sv3 (by decide) (by decide) (by decide)
 have hfi : (alls hR3.length ((0 : Int).toNat + 1)).find? (fun w => (lw 0 hB hF hR3 w).1 != 18) = none := by decide +kernel
 unfold exR
 rw [ha, if_neg (by decide), hfi]
theorem xGn : xcc 0 1 hB hF hR3 ∧ xdb 0 1 hB hF hR3 = [[2]] ∧ xdX 0 1 hB hF hR3 = [[3, 3, 3, 3]] ∧ xda 0 1 hB hF hR3 = 0 := by
 obtain ⟨h1, h2, h3, h4⟩ := xnx 0 1 hB hF hR3 xz2 hf1
 rw [xEk] at h2 h3 h4
 exact ⟨h1, h2, h3, h4⟩
theorem xGo : xcc 0 0 hB hF hR3 ∧ xda 0 0 hB hF hR3 = 18 := by
 obtain ⟨h1, h2, h3, h4⟩ := xnx 0 0 hB hF hR3 xz2 hf1
 rw [xEj] at h4
 exact ⟨h1, h4⟩
theorem h_wh (n : Int) (b : List Int) (h0 : 0 ≤ n ∧ n ≤ 3) (hok : ∀ w ∈ alls hR2.length (n.toNat + 1), okE (lw 0 hB hF hR2 w).1) (hh : hull ((alls hR2.length (n.toNat + 1)).flatMap fun w => (lw 0 hB hF hR2 w).2) = b)
  (hn : ((alls hR2.length (n.toNat + 1)).flatMap fun w => (lw 0 hB hF hR2 w).2) ≠ []) :
  xc9 0 n hB hF hR2 ∧ xci 0 n hB hF hR2 = 0 ∧ xcm 0 n hB hF hR2 = b.getD 0 0 ∧ xcl 0 n hB hF hR2 = b.getD 1 0 ∧ xck 0 n hB hF hR2 = b.getD 2 0 ∧ xcj 0 n hB hF hR2 = b.getD 3 0 := by
 obtain ⟨h1, h2⟩ := xvh 0 n hB hF hR2 xDC hf1
 have ha : askE 0 n hB hF hR2 = 0 := xBQ sv2 h0.1 h0.2 (by decide)
 rcases h2 with ⟨k, _⟩ | ⟨_, w, k1, _⟩ | ⟨_, _, k, _⟩ | ⟨_, _, _, k⟩
 ·exact absurd ha k
 ·exact absurd (hok w (xgt k1).1) (xgt k1).2
 ·exact absurd k hn
 ·rw [hh] at k; exact ⟨h1, k⟩
theorem h_nm : xdV 0 1 hB hF hR3 ∧ xdW 0 1 hB hF hR3 = 0 ∧ xcn 0 1 hB hF hR3 = [[2]] := by
 obtain ⟨h1, h2⟩ := xr2 0 1 hB hF hR3 xz2 hf1
 rw [xEk] at h2
 rcases h2 with ⟨k, _⟩ | ⟨_, ⟨w, k1, _⟩, _⟩ | ⟨_, _, k1, k2⟩
 ·exact absurd rfl k
 ·exact absurd ((show ∀ w ∈ xaB hR3.length 1, okE (lw 0 hB hF hR3 w).1 by decide +kernel) w (xgt k1).1) (xgt k1).2
 ·have e : (xaB hR3.length 1).foldl (fun out W => if (lw 0 hB hF hR3 W).1 = 0 then out.filter (kp W) else out) [[2]] = [[2]] := by decide +kernel
  exact ⟨h1, k1, k2.trans e⟩
theorem h_ch (wr : List (List Int)) (b : Bool) (hw : wr.length ≤ 3) (h1 : wB hR3.length (-1) wr = true) (h2 : ck hF wr hT hR3 0 0 (decide (inB (pX hT 0) (pY hT 0) hB)) = (0, b)) :
  xdc 0 hB hF hR3 wr hT ∧ xcP 0 hB hF hR3 wr hT = 0 ∧ xb3 0 hB hF hR3 wr hT = b := by
 obtain ⟨k1, k2, k3⟩ := xzs 0 hB hF hR3 wr hT xz2 hf1 (by omega)
 have e : chX 0 hB hF hR3 wr hT = (0, b) := by
  unfold chX
  rw [sv3, h1, if_neg (by decide +kernel), if_neg (by decide), h2]
 rw [e] at k2 k3
 exact ⟨k1, k2, k3⟩
theorem xDB : xdU = true ∧ xge := by
 obtain ⟨f2, f2e, f2l⟩ := xGm
 obtain ⟨f3, f3e⟩ := xGl
 obtain ⟨fR, fRe⟩ := xGk
 obtain ⟨x1, x1w, x1l, x1e⟩ := xGn
 obtain ⟨x0, x0e⟩ := xGo
 obtain ⟨w1, w1e, w10, w11, w12, w13⟩ := h_wh 1 [2, 9, 2, 3] (by decide) (by decide +kernel) (by decide +kernel) (by decide +kernel)
 obtain ⟨w2, w2e, w20, w21, w22, w23⟩ := h_wh 2 [0, 10, 0, 10] (by decide) (by decide +kernel) (by decide +kernel) (by decide +kernel)
 obtain ⟨n1, n1e, n1l⟩ := h_nm
 obtain ⟨c1, c1e, c1b⟩ := h_ch [[2]] true (by decide) (by decide) (by decide +kernel)
 obtain ⟨c0, c0e, c0b⟩ := h_ch [] false (by decide) (by decide) (by decide +kernel)
 have e21 : xcB = 0 := f2e
 have e22 : xcA = 18 := f3e
 have e23 : xcz = 0 := x1e
 have e24 : xcy = 18 := x0e
 have e25 : xcx = 0 := w1e
 have e26 : xcw = 0 := w2e
 have e27 : xcv = 0 := n1e
 have e28 : xcu = 0 := c1e
 have e29 : xct = 0 := c0e
 have e30 : xcs = 5 := fRe
 have e31 : xcr = [[3, 3, 3, 3]] := f2l
 have e32 : xaZ = [3, 3, 3, 3] := rfl
 have e33 : xcq = [[2]] := x1w
 have e34 : xdS = [[3, 3, 3, 3]] := x1l
 have e35 : xgd = 2 := w10
 have e36 : xgc = 9 := w11
 have e37 : xgb = 2 := w12
 have e38 : xga = 3 := w13
 have e39 : xf9 = 0 := w20
 have e40 : xf8 = 10 := w21
 have e41 : xf7 = 0 := w22
 have e42 : xf6 = 10 := w23
 have e43 : xkM = [[2]] := n1l
 have d1 : xb3 (0 : Int) [xap] [[(0 : Int), (100 : Int), (0 : Int), (0 : Int), (0 : Int), (0 : Int)]] xan [[(2 : Int)]] xdT = true := c1b
 have d0 : xb3 (0 : Int) [xap] [[(0 : Int), (100 : Int), (0 : Int), (0 : Int), (0 : Int), (0 : Int)]] xan [] xdT = false := c0b
 have sA := xC9 (a := [[3, 3, 3, 3]]) (b := [[3, 3, 3, 3]]) (by decide) (by decide) (by decide)
 have pA := (xxY [[3, 3, 3, 3]] [[3, 3, 3, 3]] (by decide)).1
 have iA := Si.xEf 2
 have qA := (Si.xyp [[2]] [[2]] (by decide)).1
 constructor
 ·unfold xdU
  rw [e21, e22, e23, e24, e25, e26, e27, e28, e29, e30, e31, e32, e33, e34, e35, e36, e37, e38, e39, e40, e41, e42, e43, sA, iA, d1, d0]
  decide
 ·unfold xge
  rw [e21, e22, e23, e24, e25, e26, e27, e28, e29, e30, e31, e32, e33, e34, e35, e36, e37, e38, e39, e40, e41, e42, e43, sA, iA]
  refine ⟨by decide, ⟨by decide, f2⟩, f3, x1, x0, by decide, ⟨by decide, w1⟩, by decide, ⟨by decide, w2⟩, n1, c1, c0, fR, fun hA => ⟨fun hB => ⟨fun _ => pA, hA, fun _ => qA, fun _ => pA, hB, fun _ => qA⟩, fun hB => absurd hB (by decide)⟩, fun hA => absurd hA (by decide)⟩
end Go.Proofs.YtnijhjpaplihbaaGreat
set_option linter.unusedVariables false
set_option maxRecDepth 100000
set_option linter.unusedSimpArgs false
set_option linter.unusedSectionVars false
namespace Go.Proofs.YtnijhjpaplihbaaGreat
open Go Go.Sy
theorem xD3 {W : World} {own : Bool} {e : TypeId} {k : Nat} {v : Value} {n : Nat} {vs : List Value} (h : xbc W own e k v n vs) : n ≤ 9223372036854775807 := by
 obtain ⟨a, c, _, h1, h2⟩ := h.reads.is
 unfold maxLen at h2
 omega
end Go.Proofs.YtnijhjpaplihbaaGreat
set_option linter.unusedVariables false
set_option maxRecDepth 100000
set_option linter.unusedSimpArgs false
set_option linter.unusedSectionVars false
namespace Go.Proofs.YtnijhjpaplihbaaGreat
open Go Go.Sy
theorem xDw (l : List (List Int)) (n : Int) : isW l n = l.any fun e => e.getD 0 0 == n := by
 unfold isW
 congr 1
 funext e
 rw [Bool.eq_iff_iff, beq_iff_eq, beq_iff_eq]
 exact eq_comm
theorem xGI (n : Int) (l : List (List Int)) (hl : l.length ≤ 9223372036854775807) : xv2 n l ∧ xs7 n l = isW l n := by
 have key := xa6 (step := xfq n l) l.length (fun q => (l.getD q []).getD 0 0 == n) (fun q => [.b false, .i q]) (fun q => []) 0 2 [.b false, .i l.length]
  (fun q hq => by
   unfold xfq
   simp only [gi_1, gi_z, gb_z, dlt hq, xaa (xa1 hq), Int.toNat_natCast, xfW (show q < 9223372036854775807 by omega)])
  (by
   unfold xfq
   simp only [gi_1, gi_z, gb_z, dnlt])
 refine ⟨key.1, ?_⟩
 rw [xDw]
 unfold xs7
 rcases key.2 with ⟨q, q1, q2, q3, q4⟩ | ⟨q3, q4⟩
 ·have e : xm0 n l = (1, []) := q4
  rw [e, show (l.any fun e => e.getD 0 0 == n) = true from xho.2 ⟨q, q1, q2⟩]
  rfl
 ·have e : xm0 n l = (3, [.b false, .i l.length]) := q4
  rw [e]
  have : (l.any fun e => e.getD 0 0 == n) = false := by
   rw [Bool.eq_false_iff]
   intro h
   obtain ⟨q, hq, h2⟩ := xho.1 h
   rw [q3 q hq] at h2
   cases h2
  rw [this]
  rfl
theorem xCs (b : List Int) (x y : Int) : xhV (b.getD 0 0) (b.getD 1 0) (b.getD 2 0) (b.getD 3 0) x y = decide (HB x y b) := by
 rw [Bool.eq_iff_iff, decide_eq_true_eq]
 unfold xhV HB
 simp only [Bool.and_eq_true, decide_eq_true_eq]
 exact ⟨fun ⟨⟨a, b⟩, c, d⟩ => ⟨a, b, c, d⟩, fun ⟨a, b, c, d⟩ => ⟨⟨a, b⟩, c, d⟩⟩
theorem xDd (x y : Int) (l : List (List Int)) (hl : l.length ≤ 9223372036854775807) : xg0 x y l ∧ xeb x y l = decide (∃ b ∈ l, HB x y b) := by
 have key := xa6 (step := xfk x y l) l.length (fun q => decide (HB x y (l.getD q []))) (fun q => [.b false, .i q]) (fun q => []) 0 2 [.b false, .i l.length]
  (fun q hq => by
   unfold xfk
   simp only [gi_1, gi_z, gb_z, dlt hq, xaa (xa1 hq), Int.toNat_natCast, xfW (show q < 9223372036854775807 by omega), xCs])
  (by
   unfold xfk
   simp only [gi_1, gi_z, gb_z, dnlt])
 refine ⟨key.1, ?_⟩
 unfold xeb
 rcases key.2 with ⟨q, q1, q2, q3, q4⟩ | ⟨q3, q4⟩
 ·have e : xmy x y l = (1, []) := q4
  rw [e, decide_eq_true (show ∃ b ∈ l, HB x y b from ⟨_, xaW q1, by simpa using q2⟩)]
  rfl
 ·have e : xmy x y l = (3, [.b false, .i l.length]) := q4
  rw [e, decide_eq_false (show ¬ ∃ b ∈ l, HB x y b from fun ⟨b, hb, h⟩ => by
   obtain ⟨q, hq, rfl⟩ := xe1 hb
   have := q3 q hq
   simp only [decide_eq_false_iff_not] at this
   exact this h)]
  rfl
section
variable (f k px py : Int) (base fc rp wr : List (List Int))
end
end Go.Proofs.YtnijhjpaplihbaaGreat
