/- Several texts in one (wip/pack.py): XInqPg XInqPh XInqPi XInqPj XInqPk XInqPl XInqPm XKoen XInqPn XInqPo XInqPt XInqQ0 XInqPu XInqPv XInqPw XInqPf2 XInqQExplained. -/
import Derived.Test.YtikhnofbbcmpeaaGreatQIE05
import Derived.Test.YtikhnofbbcmpeaaGreatQIE07
set_option linter.unusedVariables false
set_option maxRecDepth 100000
namespace Go.Proofs.YtikhnofbbcmpeaaGreat
open Go Go.Sy
abbrev ALog := Int × List (List Int)
noncomputable def xia (x : List Int) : ALog := (col x 0, decL (col x 1))
noncomputable def xax (ships : List (List Int)) : List ALog := ships.map xia
def xqP (ships : List (List Int)) : Prop := ∀ x ∈ ships, (decL (col x 1)).length ≤ 9223372036854775807
def risF : Int → List ALog → Bool
 | _, [] => true
 | b, x :: r => valF x.1 x.2 && decide (b < x.1) && risF x.1 r
noncomputable def rowO (x : List Int) : List Int := [col x 0, col x 0, encL (decL (col x 1))]
def xdS (s : Int) (logs : List ALog) : Option ALog := logs.find? fun x => x.1 == s
theorem xh2 (s : Int) : ∀ ships : List (List Int), xbU 1 [s] (ships.map rowO) = (xdS s (xax ships)).map fun x => [x.1, encL x.2]
 | [] => rfl
 | x :: r => by
  have ih := xh2 s r
  unfold xbU xdS xax at *
  rw [List.map_cons, List.map_cons, List.find?_cons, List.find?_cons]
  by_cases h : col x 0 = s
  ·have e1 : decide (List.take 1 (rowO x) = [s]) = true := decide_eq_true (by show [col x 0] = [s]; rw [h])
   have e2 : ((xia x).1 == s) = true := by show (col x 0 == s) = true; rw [h]; simp
   rw [e1, e2]; rfl
  ·have e1 : decide (List.take 1 (rowO x) = [s]) = false := decide_eq_false (by show ¬ [col x 0] = [s]; simpa using h)
   have e2 : ((xia x).1 == s) = false := by show (col x 0 == s) = false; simpa using h
   rw [e1, e2]; exact ih
noncomputable def xlk (ow t delay : Int) (s : Int × List (List Int)) (x : List Int) : (Int × List (List Int)) ⊕ (Nat × List U) :=
 if (!valF (col x 0) (decL (col x 1)) || decide (col x 0 ≤ s.1)) = true then .inr (0, [.i ow, .i t, .i delay, .r s.2]) else .inl (col x 0, putRow 1 [col x 0] [col x 0, encL (decL (col x 1))] s.2)
theorem xAe (ow t delay : Int) : ∀ (r pre : List (List Int)) (b : Int), (∀ x ∈ pre, col x 0 ≤ b) →
  (risF b (xax r) = true → ∃ b', runL (xlk ow t delay) (b, pre.map rowO) r = .inl (b', (pre ++ r).map rowO)) ∧
  (risF b (xax r) = false → ∃ rows, runL (xlk ow t delay) (b, pre.map rowO) r = .inr (0, [.i ow, .i t, .i delay, .r rows]))
 | [], pre, b, _ => ⟨fun _ => ⟨b, by simp [runL]⟩, fun h => by simp [xax, risF] at h⟩
 | x :: r, pre, b, hpre => by
  have ex : xax (x :: r) = xia x :: xax r := rfl
  have er : risF b (xia x :: xax r) = (valF (col x 0) (decL (col x 1)) && decide (b < col x 0) && risF (col x 0) (xax r)) := rfl
  rw [ex, er]
  by_cases hv : (!valF (col x 0) (decL (col x 1)) || decide (col x 0 ≤ b)) = true
  ·have e : xlk ow t delay (b, pre.map rowO) x = .inr (0, [.i ow, .i t, .i delay, .r (pre.map rowO)]) := by unfold xlk; rw [if_pos hv]
   have hf : (valF (col x 0) (decL (col x 1)) && decide (b < col x 0)) = false := by
    rcases Bool.or_eq_true_iff.1 hv with h | h
    ·have : valF (col x 0) (decL (col x 1)) = false := by simpa using h
     rw [this]; rfl
    ·have : decide (b < col x 0) = false := decide_eq_false (by have := of_decide_eq_true h; omega)
     rw [this, Bool.and_false]
   rw [hf]
   refine ⟨(fun h => by cases h), fun _ => ⟨pre.map rowO, ?_⟩⟩
   unfold runL
   rw [e]
  ·have e0 : xlk ow t delay (b, pre.map rowO) x = .inl (col x 0, putRow 1 [col x 0] [col x 0, encL (decL (col x 1))] (pre.map rowO)) := by unfold xlk; rw [if_neg hv]
   have hv' : valF (col x 0) (decL (col x 1)) = true ∧ b < col x 0 := by
    simp only [Bool.or_eq_true, Bool.not_eq_true', decide_eq_true_eq, not_or] at hv
    exact ⟨by simpa using hv.1, by omega⟩
   have hno : (xbU 1 [col x 0] (pre.map rowO)).isSome = false := by
    rw [xh2]
    have : xdS (col x 0) (xax pre) = none := by
     unfold xdS xax
     rw [List.find?_eq_none]
     intro y hy
     obtain ⟨z, hz, rfl⟩ := List.mem_map.1 hy
     have := hpre z hz
     show ¬ (col z 0 == col x 0) = true
     intro h
     have h := eq_of_beq h
     omega
    rw [this]; rfl
   have e : xlk ow t delay (b, pre.map rowO) x = .inl (col x 0, (pre ++ [x]).map rowO) := by
    rw [e0]
    unfold putRow
    rw [hno, cond_false, List.map_append]
    rfl
   have hf : (valF (col x 0) (decL (col x 1)) && decide (b < col x 0)) = true := by rw [hv'.1, decide_eq_true hv'.2]; rfl
   rw [hf, Bool.true_and]
   obtain ⟨i1, i2⟩ := xAe ow t delay r (pre ++ [x]) (col x 0) (fun y hy => by
    rcases List.mem_append.1 hy with hy | hy
    ·have := hpre y hy; omega
    ·rw [List.mem_singleton.1 hy]; exact Int.le_refl _)
   unfold runL
   rw [e]
   refine ⟨fun h => ?_, fun h => i2 h⟩
   obtain ⟨b', hb⟩ := i1 h
   exact ⟨b', by show runL (xlk ow t delay) (col x 0, (pre ++ [x]).map rowO) r = _; rw [hb, List.append_assoc]; rfl⟩
theorem xvO {ow t delay : Int} {office ships list : List (List Int)} (hs : ships.length ≤ 9223372036854775807) (hd : xqP ships) :
  xaz (xbj ow t delay office ships list) (xce ow t delay office ships list) ∧
  (risF 0 (xax ships) = true → (xaq ow t delay office ships list).1.beq 1 = false ∧ gr (xaq ow t delay office ships list).2 3 = ships.map rowO) ∧
  (risF 0 (xax ships) = false → (xaq ow t delay office ships list).1.beq 1 = true) := by
 obtain ⟨h1, h2⟩ := xb2 (step := xbj ow t delay office ships list) ships (fun i (s : Int × List (List Int)) => [.b false, .i s.1, .i i, .r s.2]) (xlk ow t delay) (fun _ _ => True) (fun s => (2, [.b false, .i s.1, .i ships.length, .r s.2])) 0
  (fun i s hi _ _ => ⟨by
   unfold xbj xkD
   simp only [gi_2, gi_1, gi_z, gb_z, gr_3, gr_z, dlt hi, xaa (xay hi), xdh (show i < 9223372036854775807 by omega), xaS hi]
   have hx := hd _ (List.getElem_mem hi)
   generalize ships[i] = x at *
   obtain ⟨v1, v2⟩ := xfF (col x 0) (decL (col x 1)) hx
   rw [xaa v1, v2]
   unfold xlk
   cases h : (!valF (col x 0) (decL (col x 1)) || decide (col x 0 ≤ s.1)) with
   | true => rw [if_pos rfl]; rfl
   | false => rw [if_neg (by decide)]; rfl, fun _ _ => trivial⟩)
  (fun i s hi _ => by
   have : i = ships.length := by omega
   subst this
   unfold xbj
   simp only [gi_2, gi_1, gi_z, gb_z, gr_3, gr_z, dnlt]) (s := (0, [])) trivial
 have hi : xce ow t delay office ships list = [.b false, .i 0, .i ((0 : Nat) : Int), .r []] := rfl
 unfold xaq
 rw [hi]
 have g := xAe ow t delay ships [] 0 (fun x hx => by cases hx)
 simp only [List.map_nil, List.nil_append] at g
 obtain ⟨g1, g2⟩ := g
 refine ⟨h1, fun h => ?_, fun h => ?_⟩
 ·obtain ⟨b', hb⟩ := g1 h
  rw [h2, List.drop_zero, hb]
  refine ⟨rfl, ?_⟩
  show gr [.b false, .i b', .i ships.length, .r (ships.map rowO)] 3 = _
  rw [gr_3, gr_z]
 ·obtain ⟨rows, hr⟩ := g2 h
  rw [h2, List.drop_zero, hr]; rfl
def xmH (logs : List ALog) (c : List Int) : Bool := !(xdS (col c 0) logs).isSome
theorem xxM {ow t delay : Int} {office ships list : List (List Int)} (hl : list.length ≤ 9223372036854775807) (hs : ships.length ≤ 9223372036854775807) (hd : xqP ships) (hr : risF 0 (xax ships) = true) :
  xaz (xbi ow t delay office ships list) (xc1 ow t delay office ships list) ∧
  decide ((bif (xbK ow t delay office ships list).fst.beq 1 then gi (xbK ow t delay office ships list).snd 0 else (-1 : Int)) ≥ (0 : Int)) = list.any (xmH (xax ships)) := by
 have hrows := ((xvO (ow := ow) (t := t) (delay := delay) (office := office) (list := list) hs hd).2.1 hr).2
 refine xjl (step := xbi ow t delay office ships list) (l := list) (p := xmH (xax ships)) 1 (fun i hi => ?_) ?_ rfl
 ·unfold xbi
  simp only [gi_1, gi_z, dlt hi, xaa (xay hi), xdh (show i < 9223372036854775807 by omega), xaS hi]
  rw [show (xaq ow t delay office ships list).snd = (xaq ow t delay office ships list).2 from rfl, hrows, xh2]
  unfold xmH
  rw [Option.isSome_map]
 ·unfold xbi
  simp only [gi_1, gi_z, dnlt]
def xi9 (ow t delay : Int) (office : List (List Int)) (logs : List ALog) (list : List (List Int)) : Bool :=
 valF ow office && ow == 0 && chF list && tmF t && decide (0 ≤ delay) && decide (delay ≤ 100000) && risF 0 logs && !list.any (xmH logs)
def xhI (ow t delay : Int) (office list : List (List Int)) : Bool := valF ow office && ow == 0 && chF list && tmF t && decide (0 ≤ delay) && decide (delay ≤ 100000)
theorem xvj (ow t delay : Int) (office : List (List Int)) (logs : List ALog) (list : List (List Int)) : xi9 ow t delay office logs list = (xhI ow t delay office list && risF 0 logs && !list.any (xmH logs)) := rfl
theorem xs2 {ow t delay : Int} {office list : List (List Int)} (ho : office.length ≤ 9223372036854775807) (hl : list.length ≤ 9223372036854775807) :
  (!xae ow office || ow != (0 : Int) || !xaA list || !xav t || decide (delay < (0 : Int)) || decide (delay > (100000 : Int))) = !xhI ow t delay office list := by
 rw [(xfF ow office ho).2, (xi8 list hl).2, xpA]
 have e1 : decide (delay < 0) = !decide (0 ≤ delay) := by
  by_cases h : delay < 0
  ·rw [decide_eq_true h, decide_eq_false (by omega)]; rfl
  ·rw [decide_eq_false h, decide_eq_true (by omega)]; rfl
 have e2 : decide (delay > 100000) = !decide (delay ≤ 100000) := by
  by_cases h : delay > 100000
  ·rw [decide_eq_true h, decide_eq_false (by omega)]; rfl
  ·rw [decide_eq_false h, decide_eq_true (by omega)]; rfl
 rw [e1, e2]
 unfold xhI
 show (!valF ow office || !(ow == 0) || !chF list || !tmF t || !decide (0 ≤ delay) || !decide (delay ≤ 100000)) = _
 cases valF ow office <;> cases (ow == 0) <;> cases chF list <;> cases tmF t <;> cases decide (0 ≤ delay) <;> cases decide (delay ≤ 100000) <;> rfl
theorem xBy {n : Int} (h0 : -1000000000 ≤ n) (h1 : n ≤ 1000000000) : (Lit.int .i64 n).wf = true := by
 have e1 : IntKind.i64.min = -9223372036854775808 := by decide
 have e2 : IntKind.i64.max = 9223372036854775807 := by decide
 unfold Lit.wf
 simp only [e1, e2, Bool.and_eq_true, decide_eq_true_eq]
 omega
def xj8 (logs : List ALog) (c : List Int) : List (List Int) := ((xdS (col c 0) logs).getD (0, [])).2
def xr4 (logs : List ALog) (tm dl : Int) (c : List Int) : Bool := decide (col c 2 + dl > tm) || (xpH tm (xj8 logs c)).contains (col c 1)
def offF (logs : List ALog) (c : List Int) : Bool := decide (xnK 0 (-1) (xj8 logs c) < col c 2) || !onF (col c 2) true (xj8 logs c)
def updF (logs : List ALog) (c g : List Int) : List Int := [col g 0, col g 1, b2 (col g 2 != 0), b2 (col g 3 != 0 && offF logs c)]
def xlK (office : List (List Int)) (logs : List ALog) (tm dl : Int) (gs : List (List Int)) (c : List Int) : List (List Int) :=
 bif xr4 logs tm dl c then gs else
 bif gs.any (xfk c) then gs.map fun g => bif xfk c g then updF logs c g else g
 else gs ++ [updF logs c [col c 0, col c 1, b2 (!xuC (col c 1) (-1) office), 1]]
def xdR (office : List (List Int)) (logs : List ALog) (tm dl : Int) (list : List (List Int)) : List (List Int) := (xmk (list.foldl (xlK office logs tm dl) [])).map xl5
theorem xyn (n : Int) (l : List Int) : hasN n (xaG l) = l.contains n := by
 unfold hasN xaG
 rw [List.any_map, List.contains_eq_any_beq]
 rfl
theorem xlP : ∀ {logs : List ALog} {b : Int}, risF b logs = true → ∀ x ∈ logs, valF x.1 x.2 = true ∧ b < x.1
 | [], _, _, x, hx => by cases hx
 | y :: r, b, h, x, hx => by
  unfold risF at h
  simp only [Bool.and_eq_true, decide_eq_true_eq] at h
  rcases List.mem_cons.1 hx with rfl | hx
  ·exact h.1
  ·have := xlP h.2 x hx
   exact ⟨this.1, by omega⟩
theorem xtg {logs : List ALog} (h : risF 0 logs = true) (c : List Int) : (xj8 logs c).length ≤ 200 := by
 unfold xj8 xdS
 cases hf : logs.find? fun x => x.1 == col c 0 with
 | none => simp
 | some x => exact (xxm (xlP h x (List.mem_of_find?_eq_some hf)).1).1
theorem xpp (ships : List (List Int)) (c : List Int) : gSl (ships.map rowO) c = xj8 (xax ships) c := by
 unfold gSl xBk xj8
 rw [xh2]
 cases xdS (c.getD 0 0) (xax ships) with
 | none => exact xft _
 | some x => exact xft _
theorem xne {list : List (List Int)} (h : chF list = true) : list.length ≤ 200 ∧ ∀ c ∈ list, 0 ≤ col c 2 ∧ col c 2 ≤ 10000000 ∧ 1 ≤ col c 1 ∧ col c 1 ≤ 10000 ∧ 1 ≤ col c 0 ∧ col c 0 ≤ 8 := by
 unfold chF at h
 simp only [Bool.and_eq_true, decide_eq_true_eq, Bool.not_eq_true'] at h
 refine ⟨h.1, fun c hc => ?_⟩
 have := List.any_eq_false.1 h.2 c hc
 unfold badC tmF itF at this
 simp only [Bool.not_eq_true, Bool.or_eq_false_iff, Bool.not_eq_false', Bool.and_eq_true, decide_eq_true_eq, decide_eq_false_iff_not] at this
 omega
theorem xu8 {ow t delay : Int} {office ships list : List (List Int)} (ho : office.length ≤ 9223372036854775807) (hc : xhI ow t delay office list = true) (hr : risF 0 (xax ships) = true) :
  xcX ow t delay office (ships.map rowO) list ∧ xal ow t delay office (ships.map rowO) list = xdR office (xax ships) t delay list := by
 unfold xhI at hc
 simp only [Bool.and_eq_true, decide_eq_true_eq] at hc
 obtain ⟨⟨⟨⟨⟨hv, h0⟩, hch⟩, htm⟩, hd0⟩, hd1⟩ := hc
 obtain ⟨hlen, hcs⟩ := xne hch
 have eskip : ∀ c ∈ list, xra (ships.map rowO) t delay c = xr4 (xax ships) t delay c ∧ GPre office (ships.map rowO) ow t delay c := by
  intro c hc
  obtain ⟨q1, q2, q3, q4, q5, q6⟩ := hcs c hc
  have hsl := xtg hr c
  have hsh := xvD (gSo (ships.map rowO) c) t (xj8 (xax ships) c) (by omega)
  have hcn := xvf (col c 1) (xaG (xpH t (xj8 (xax ships) c))) (by
   have h1 := xtB (xka t (xj8 (xax ships) c))
   have h2 := xj9 t (xj8 (xax ships) c)
   unfold xaG xpH
   rw [List.length_map]
   omega)
  have elate : xyC t delay c = decide (col c 2 + delay > t) := by
   unfold xyC
   have q1' : 0 ≤ c.getD 2 0 := q1
   have q2' : c.getD 2 0 ≤ 10000000 := q2
   rw [xe6 (by omega)]
  have e : xra (ships.map rowO) t delay c = xr4 (xax ships) t delay c := by
   unfold xra xr4
   rw [elate, xpp, hsh.2]
   congr 1
   exact hcn.2.trans (xyn _ _)
  refine ⟨e, ⟨xBy (n := col c 0) (by omega) (by omega), xBy (n := col c 1) (by omega) (by omega), fun _ => ?_, fun _ => ?_⟩⟩
  ·rw [xpp]
   exact ⟨hsh.1, by rw [hsh.2]; exact hcn.1⟩
  ·rw [xpp]
   exact ⟨(xr8 _ _ _ office ho).1, (xuY _ _ (by omega)).1, (xxQ _ _ _ (by omega)).1⟩
 refine ⟨⟨by omega, fun c hc => (eskip c hc).2⟩, ?_⟩
 unfold xal xdR
 congr 2
 have key : ∀ (l : List (List Int)) (gs : List (List Int)), (∀ c ∈ l, c ∈ list) → l.foldl (xl4 office (ships.map rowO) ow t delay) gs = l.foldl (xlK office (xax ships) t delay) gs := by
  intro l
  induction l with
  | nil => intro gs _; rfl
  | cons c r ih =>
   intro gs hl
   rw [List.foldl_cons, List.foldl_cons]
   have hcm := hl c List.mem_cons_self
   have hsl := xtg hr c
   have e : xl4 office (ships.map rowO) ow t delay gs c = xlK office (xax ships) t delay gs c := by
    have eu : ∀ g, gUpd (ships.map rowO) c g = updF (xax ships) c g := fun g => by
     unfold gUpd updF offF
     rw [xpp, (xuY _ _ (by omega)).2.1, (xxQ _ _ _ (by omega)).2]
    unfold xl4 xlK
    rw [(eskip c hcm).1, (xr8 _ _ _ office ho).2]
    simp only [eu]
   rw [e]
   exact ih _ fun x hx => hl x (List.mem_cons_of_mem _ hx)
 exact key list [] fun c h => h
end Go.Proofs.YtikhnofbbcmpeaaGreat
set_option linter.unusedVariables false
set_option maxRecDepth 100000
namespace Go.Proofs.YtikhnofbbcmpeaaGreat
open Go Go.Sy
abbrev Key := Int × Int
def kOf (g : List Int) : Key := (col g 0, col g 1)
def ltK (a b : Key) : Prop := a.1 < b.1 ∨ (a.1 = b.1 ∧ a.2 < b.2)
def cntF (logs : List ALog) (tm dl : Int) (c : List Int) : Bool := !xr4 logs tm dl c
def mkG (office : List (List Int)) (logs : List ALog) (tm dl : Int) (list : List (List Int)) (k : Key) : List Int :=
 [k.1, k.2, b2 (!xuC k.2 (-1) office), b2 (list.all fun c => !(cntF logs tm dl c && decide (kOf c = k)) || offF logs c)]
theorem b2_b (b : Bool) : b2 (b2 b != 0) = b2 b := by cases b <;> rfl
theorem xnZ (c g : List Int) : xfk c g = decide (kOf c = kOf g) := by
 unfold xfk kOf
 by_cases h : (col c 0, col c 1) = (col g 0, col g 1)
 ·rw [decide_eq_true h]
  obtain ⟨h1, h2⟩ := Prod.mk.inj h
  rw [show g.getD 0 0 = c.getD 0 0 from h1.symm, show g.getD 1 0 = c.getD 1 0 from h2.symm]
  simp
 ·rw [decide_eq_false h]
  cases hb : (g.getD 0 0 == c.getD 0 0 && g.getD 1 0 == c.getD 1 0) with
  | false => rfl
  | true =>
   rw [Bool.and_eq_true, beq_iff_eq, beq_iff_eq] at hb
   exact absurd (Prod.ext hb.1.symm hb.2.symm) h
theorem xm4 (office : List (List Int)) (logs : List ALog) (tm dl : Int) : ∀ (r done : List (List Int)) (ks : List Key), ks.Nodup → (∀ k, k ∈ ks ↔ ∃ c ∈ done, cntF logs tm dl c = true ∧ kOf c = k) →
  ∃ ks' : List Key, ks'.Nodup ∧ (∀ k, k ∈ ks' ↔ ∃ c ∈ done ++ r, cntF logs tm dl c = true ∧ kOf c = k) ∧ r.foldl (xlK office logs tm dl) (ks.map (mkG office logs tm dl done)) = ks'.map (mkG office logs tm dl (done ++ r))
 | [], done, ks, hn, hk => ⟨ks, hn, by simpa using hk, by simp⟩
 | c :: r, done, ks, hn, hk => by
  rw [List.foldl_cons]
  have emk : ∀ k, cntF logs tm dl c = false ∨ kOf c ≠ k → mkG office logs tm dl (done ++ [c]) k = mkG office logs tm dl done k := fun k h => by
   unfold mkG
   have : (!(cntF logs tm dl c && decide (kOf c = k)) || offF logs c) = true := by
    rcases h with h | h
    ·rw [h]; rfl
    ·rw [decide_eq_false h, Bool.and_false]; rfl
   rw [List.all_append, List.all_cons, List.all_nil, this, Bool.true_and, Bool.and_true]
  cases hs : xr4 logs tm dl c with
  | true =>
   have hc : cntF logs tm dl c = false := by unfold cntF; rw [hs]; rfl
   have e : xlK office logs tm dl (ks.map (mkG office logs tm dl done)) c = ks.map (mkG office logs tm dl (done ++ [c])) := by
    unfold xlK
    rw [hs, cond_true]
    exact List.map_congr_left fun k _ => (emk k (.inl hc)).symm
   rw [e]
   have hk' : ∀ k, k ∈ ks ↔ ∃ x ∈ done ++ [c], cntF logs tm dl x = true ∧ kOf x = k := fun k => by
    rw [hk]
    constructor
    ·rintro ⟨x, hx, h⟩; exact ⟨x, List.mem_append.2 (.inl hx), h⟩
    ·rintro ⟨x, hx, h⟩
     rcases List.mem_append.1 hx with hx | hx
     ·exact ⟨x, hx, h⟩
     ·rw [List.mem_singleton.1 hx, hc] at h
      cases h.1
   have := xm4 office logs tm dl r (done ++ [c]) ks hn hk'
   simpa [List.append_assoc] using this
  | false =>
   have hc : cntF logs tm dl c = true := by unfold cntF; rw [hs]; rfl
   have hkey : ∀ k, kOf (mkG office logs tm dl done k) = k := fun k => rfl
   have hany : (ks.map (mkG office logs tm dl done)).any (xfk c) = decide (kOf c ∈ ks) := by
    rw [List.any_map]
    by_cases h : kOf c ∈ ks
    ·rw [decide_eq_true h, List.any_eq_true]
     exact ⟨kOf c, h, by show xfk c (mkG office logs tm dl done (kOf c)) = true; rw [xnZ, hkey]; exact decide_eq_true rfl⟩
    ·rw [decide_eq_false h, List.any_eq_false]
     intro k hk'
     show ¬ xfk c (mkG office logs tm dl done k) = true
     rw [xnZ, hkey]
     intro h'
     exact h ((of_decide_eq_true h') ▸ hk')
   by_cases hin : kOf c ∈ ks
   ·have e : xlK office logs tm dl (ks.map (mkG office logs tm dl done)) c = ks.map (mkG office logs tm dl (done ++ [c])) := by
     unfold xlK
     rw [hs, cond_false, hany, decide_eq_true hin, cond_true, List.map_map]
     refine List.map_congr_left fun k _ => ?_
     show (bif xfk c (mkG office logs tm dl done k) then updF logs c (mkG office logs tm dl done k) else mkG office logs tm dl done k) = _
     rw [xnZ, hkey]
     by_cases h : kOf c = k
     ·rw [decide_eq_true h, cond_true]
      show [k.1, k.2, b2 (b2 (!xuC k.2 (-1) office) != 0), b2 (b2 (done.all fun c => !(cntF logs tm dl c && decide (kOf c = k)) || offF logs c) != 0 && offF logs c)] = _
      rw [b2_b, xCl]
      unfold mkG
      rw [List.all_append, List.all_cons, List.all_nil, hc, decide_eq_true h, Bool.and_true]
      rfl
     ·rw [decide_eq_false h, cond_false]
      exact (emk k (.inr h)).symm
    rw [e]
    have hk' : ∀ k, k ∈ ks ↔ ∃ x ∈ done ++ [c], cntF logs tm dl x = true ∧ kOf x = k := fun k => by
     constructor
     ·intro h
      obtain ⟨x, hx, h⟩ := (hk k).1 h
      exact ⟨x, List.mem_append.2 (.inl hx), h⟩
     ·rintro ⟨x, hx, h⟩
      rcases List.mem_append.1 hx with hx | hx
      ·exact (hk k).2 ⟨x, hx, h⟩
      ·rw [List.mem_singleton.1 hx] at h
       exact h.2 ▸ hin
    have := xm4 office logs tm dl r (done ++ [c]) ks hn hk'
    simpa [List.append_assoc] using this
   ·have e : xlK office logs tm dl (ks.map (mkG office logs tm dl done)) c = (ks ++ [kOf c]).map (mkG office logs tm dl (done ++ [c])) := by
     unfold xlK
     rw [hs, cond_false, hany, decide_eq_false hin, cond_false, List.map_append]
     congr 1
     ·exact List.map_congr_left fun k hk' => (emk k (.inr fun h => hin (h ▸ hk'))).symm
     ·show [[col c 0, col c 1, b2 (b2 (!xuC (col c 1) (-1) office) != 0), b2 (true && offF logs c)]] = [mkG office logs tm dl (done ++ [c]) (kOf c)]
      rw [b2_b]
      unfold mkG
      have hall : (done.all fun c' => !(cntF logs tm dl c' && decide (kOf c' = kOf c)) || offF logs c') = true := by
       rw [List.all_eq_true]
       intro x hx
       cases h1 : cntF logs tm dl x with
       | false => rfl
       | true =>
        have : ¬ kOf x = kOf c := fun h => hin ((hk _).2 ⟨x, hx, h1, h⟩)
        rw [decide_eq_false this]; rfl
      rw [List.all_append, List.all_cons, List.all_nil, hall, hc, decide_eq_true rfl]
      simp [kOf]
    rw [e]
    have hk' : ∀ k, k ∈ ks ++ [kOf c] ↔ ∃ x ∈ done ++ [c], cntF logs tm dl x = true ∧ kOf x = k := fun k => by
     rw [List.mem_append, hk, List.mem_singleton]
     constructor
     ·rintro (⟨x, hx, h⟩ | h)
      ·exact ⟨x, List.mem_append.2 (.inl hx), h⟩
      ·exact ⟨c, by simp, hc, h.symm⟩
     ·rintro ⟨x, hx, h⟩
      rcases List.mem_append.1 hx with hx | hx
      ·exact .inl ⟨x, hx, h⟩
      ·rw [List.mem_singleton.1 hx] at h
       exact .inr h.2.symm
    have hn' : (ks ++ [kOf c]).Nodup := List.nodup_append.2 ⟨hn, by simp, fun a ha b hb e => hin (by rw [List.mem_singleton.1 hb] at e; exact e ▸ ha)⟩
    have := xm4 office logs tm dl r (done ++ [c]) (ks ++ [kOf c]) hn' hk'
    simpa [List.append_assoc] using this
theorem xnY (office : List (List Int)) (logs : List ALog) (tm dl : Int) (list : List (List Int)) : ∃ ks : List Key, ks.Pairwise ltK ∧ (∀ k, k ∈ ks ↔ ∃ c ∈ list, cntF logs tm dl c = true ∧ kOf c = k) ∧ xdR office logs tm dl list = ks.map (mkG office logs tm dl list) := by
 obtain ⟨ks, h1, h2, h3⟩ := xm4 office logs tm dl list [] [] List.nodup_nil (by simp)
 have h2 : ∀ k, k ∈ ks ↔ ∃ c ∈ list, cntF logs tm dl c = true ∧ kOf c = k := h2
 have h3 : list.foldl (xlK office logs tm dl) [] = ks.map (mkG office logs tm dl list) := h3
 have hp := xhc (le := leL [0, 1]) (ks.map (mkG office logs tm dl list))
 have hsort := xgI (xeN [0, 1]) (xeM [0, 1]) (ks.map (mkG office logs tm dl list))
 have hmem : ∀ g ∈ xfD (leL [0, 1]) (ks.map (mkG office logs tm dl list)), mkG office logs tm dl list (kOf g) = g ∧ kOf g ∈ ks := fun g hg => by
  obtain ⟨k, hk, rfl⟩ := List.mem_map.1 (hp.mem_iff.1 hg)
  exact ⟨rfl, hk⟩
 have hks : ((xfD (leL [0, 1]) (ks.map (mkG office logs tm dl list))).map kOf).Perm ks := by
  have := hp.map kOf
  rw [List.map_map] at this
  have e : ks.map (kOf ∘ mkG office logs tm dl list) = ks := (List.map_congr_left fun k _ => rfl).trans (List.map_id ks)
  rwa [e] at this
 refine ⟨(xfD (leL [0, 1]) (ks.map (mkG office logs tm dl list))).map kOf, ?_, fun k => by rw [hks.mem_iff, h2], ?_⟩
 ·have hnd : ((xfD (leL [0, 1]) (ks.map (mkG office logs tm dl list))).map kOf).Nodup := hks.nodup_iff.2 h1
  rw [List.pairwise_map]
  have hne : (xfD (leL [0, 1]) (ks.map (mkG office logs tm dl list))).Pairwise fun a b => kOf a ≠ kOf b := by
   rw [← List.pairwise_map]
   exact hnd
  refine (List.Pairwise.and hsort hne).imp fun {a b} h => ?_
  obtain ⟨h1, h2⟩ := h
  unfold leL at h1
  show col a 0 < col b 0 ∨ (col a 0 = col b 0 ∧ col a 1 < col b 1)
  by_cases e0 : a.getD 0 0 = b.getD 0 0
  ·rw [if_pos e0] at h1
   unfold leL at h1
   by_cases e1 : a.getD 1 0 = b.getD 1 0
   ·exact absurd (Prod.ext e0 e1) h2
   ·rw [if_neg e1] at h1
    exact .inr ⟨e0, of_decide_eq_true h1⟩
  ·rw [if_neg e0] at h1
   exact .inl (of_decide_eq_true h1)
 ·unfold xdR xmk
  rw [h3, List.map_map]
  refine List.map_congr_left fun g hg => ?_
  obtain ⟨e, _⟩ := hmem g hg
  show xl5 g = mkG office logs tm dl list (kOf g)
  rw [e]
  rw [← e]
  show [_, _, b2 (b2 _ != 0), b2 (b2 _ != 0)] = _
  rw [b2_b, b2_b]
  rfl
def xuv (gs : List (List Int)) : Prop := ∀ g ∈ gs, xl5 g = g
theorem xm2 {office : List (List Int)} {logs : List ALog} {tm dl : Int} {list : List (List Int)} (hch : chF list = true) : xeD (xdR office logs tm dl list) ∧ xuv (xdR office logs tm dl list) ∧ (xdR office logs tm dl list).length ≤ list.length := by
 obtain ⟨ks, h1, h2, h3⟩ := xnY office logs tm dl list
 obtain ⟨hlen, hcs⟩ := xne hch
 rw [h3]
 refine ⟨fun g hg => ?_, fun g hg => ?_, ?_⟩
 ·obtain ⟨k, hk, rfl⟩ := List.mem_map.1 hg
  obtain ⟨c, hc, _, rfl⟩ := (h2 k).1 hk
  have := hcs c hc
  show 0 ≤ col c 0 ∧ col c 0 ≤ 8
  omega
 ·obtain ⟨k, hk, rfl⟩ := List.mem_map.1 hg
  show [_, _, b2 (b2 _ != 0), b2 (b2 _ != 0)] = _
  rw [b2_b, b2_b]
  rfl
 ·have hl : ∀ (l : List (List Int)) (gs : List (List Int)), (l.foldl (xlK office logs tm dl) gs).length ≤ gs.length + l.length := by
   intro l
   induction l with
   | nil => intro gs; simp
   | cons c r ih =>
    intro gs
    rw [List.foldl_cons]
    refine Nat.le_trans (ih _) ?_
    have : (xlK office logs tm dl gs c).length ≤ gs.length + 1 := by
     unfold xlK
     cases xr4 logs tm dl c
     ·rw [cond_false]
      cases gs.any (xfk c)
      ·rw [cond_false]; simp
      ·rw [cond_true]; simp
     ·rw [cond_true]; omega
    simp only [List.length_cons]
    omega
  rw [← h3]
  unfold xdR xmk
  rw [List.length_map, xeO]
  simpa using hl list []
end Go.Proofs.YtikhnofbbcmpeaaGreat
set_option linter.unusedVariables false
set_option maxRecDepth 100000
namespace Go.Proofs.YtikhnofbbcmpeaaGreat
open Go Go.Sy
def apF (g h : List Int) : Bool := !(col g 0 == col h 0 && (col g 1 == col h 1 && true)) && !((col g 2 != 0) && (col h 2 != 0) && col g 1 == col h 1) && !((col g 3 != 0) && (col h 3 != 0) && col g 0 == col h 0)
noncomputable def goP (k : Int → List (List Int) → List (List Int)) (n : Int) : List (List Int) → List (List Int)
 | [] => []
 | g :: r => if ((fewF (r.filter (apF g))).length : Int) = n - 1 then [col g 0, col g 1] :: k (n - 1) (r.filter (apF g)) else goP k n r
noncomputable def prF : Nat → Int → List (List Int) → List (List Int)
 | 0, _, _ => []
 | m + 1, n, list => if n = 0 then [] else goP (prF m) n list
theorem xrD {k : Int → List (List Int) → List (List Int)} (hk : ∀ n l, (k n l).length ≤ l.length) (n : Int) : ∀ l, (goP k n l).length ≤ l.length
 | [] => Nat.le_refl _
 | g :: r => by
  unfold goP
  split
  ·have h1 := hk (n - 1) (r.filter (apF g))
   have h2 := List.length_filter_le (apF g) r
   simp only [List.length_cons]
   omega
  ·have := xrD hk n r
   simp only [List.length_cons]
   omega
theorem xrq : ∀ (m : Nat) (n : Int) (l : List (List Int)), (prF m n l).length ≤ l.length
 | 0, _, _ => Nat.zero_le _
 | m + 1, n, l => by
  unfold prF
  split
  ·exact Nat.zero_le _
  ·exact xrD (xrq m) n l
theorem xAR {pr : Int → List (List Int) → Prop} {g : Int → List (List Int) → List (List Int)} {n : Int} {list : List (List Int)} (hok : xuv list) (hl : list.length ≤ 1000000) {i : Nat} (hi : i < list.length) :
  xaz (xfp pr g n list [.i i]) (xlQ pr g n list [.i i]) ∧ gr (xpU pr g n list [.i i]).snd 1 = (list.drop (i + 1)).filter (apF list[i]) := by
 have hw : IntKind.i64.wrap ((i : Int) + 1) = ((i + 1 : Nat) : Int) := xdh (by omega)
 have hld : (list.drop (i + 1)).length = list.length - (i + 1) := List.length_drop
 obtain ⟨h1, h2⟩ := xb2 (step := xfp pr g n list [.i i]) (list.drop (i + 1)) (fun j (s : List (List Int)) => [.i j, .r s]) (fun s x => .inl (if apF list[i] x = true then s ++ [x] else s)) (fun j s => s.length ≤ j) (fun s => (2, [.i ((list.drop (i + 1)).length : Nat), .r s])) 0
  (fun j s hj _ hI => by
   have hj' : i + 1 + j < list.length := by omega
   have he : (list.drop (i + 1))[j] = list[i + 1 + j] := List.getElem_drop
   have hfit : ∀ x : List Int, xbf 24 (s.length + [x].length) := fun x => by unfold xbf maxLen; simp only [List.length_cons, List.length_nil]; omega
   refine ⟨?_, fun s' hs' => by cases hs'; exact Nat.le_trans (xrA _ _ _) (by omega)⟩
   rw [he]
   have hn := hok _ (List.getElem_mem hj')
   unfold xfp xxD xxC xz8 xAa xz9
   simp only [gi_z, gr_1, gr_z, hw, xat, loN, shI, Int.toNat_natCast, xdh (show j < 9223372036854775807 by omega)]
   rw [decide_eq_true (by omega), cond_true, xaa (by omega), xaa (by unfold inR; omega), show (((i + 1 : Nat) : Int) + (j : Int)).toNat = i + 1 + j by omega, xbe hj', xbe hi, xaa (hfit _)]
   have hn' : [list[i + 1 + j].getD 0 0, list[i + 1 + j].getD 1 0, bif list[i + 1 + j].getD 2 0 != 0 then 1 else 0, bif list[i + 1 + j].getD 3 0 != 0 then 1 else 0] = list[i + 1 + j] := hn
   rw [hn']
   show (bif apF list[i] list[i + 1 + j] then _ else _) = _
   cases apF list[i] list[i + 1 + j]
   ·rw [if_neg (by decide)]; rfl
   ·rw [if_pos rfl]; rfl)
  (fun j s hj _ => by
   have : j = (list.drop (i + 1)).length := by omega
   subst this
   unfold xfp xxD
   simp only [gi_z, gr_1, gr_z, hw, xat, loN, Int.toNat_natCast, hld]
   rw [decide_eq_false (by omega)]; rfl) (s := []) (Nat.zero_le _)
 refine ⟨h1, ?_⟩
 have : xpU pr g n list [.i i] = xan (xfp pr g n list [.i i]) [.i ((0 : Nat) : Int), .r []] := rfl
 rw [this, h2, List.drop_zero, xdY, xgJ, List.nil_append]
 show gr [.i _, .r (((list.drop (i + 1)).filter (apF list[i])).map fun x => x)] 1 = _
 rw [gr_1, gr_z, List.map_id']
theorem xz6 : ∀ (k n : Nat) (list : List (List Int)), n < k → n ≤ 1000000 → xeD list → xuv list → list.length ≤ 1000000 → (prx k).1 n list ∧ (prx k).2 n list = prF k n list
 | 0, n, list, hn, _, _, _, _ => by omega
 | k + 1, n, list, hn, hnb, hs, hok, hl => by
  show xuI (prx k).1 (prx k).2 n list ∧ xzu (prx k).1 (prx k).2 n list = prF (k + 1) n list
  by_cases h0 : n = 0
  ·subst h0
   exact ⟨(fun h => by cases h), rfl⟩
  ·have hn0 : ((n : Int) == 0) = false := by simpa using h0
   have key : ∀ m i, i + m = list.length → ∃ q r, xhu (xgm (prx k).1 (prx k).2 n list) q [.i i] = some r ∧ (bif r.1.beq 1 then gr r.2 0 else []) = goP (prF k) n (list.drop i) := by
    intro m
    induction m with
    | zero =>
     intro i hi
     have hi : i = list.length := by omega
     subst hi
     refine ⟨1, (3, [.i list.length]), xjn ?_, ?_⟩
     ·unfold xgm
      simp only [gi_z, dnlt]
     ·rw [List.drop_length]; rfl
    | succ m ih =>
     intro i hi
     have hi' : i < list.length := by omega
     have hw : IntKind.i64.wrap ((i : Int) + 1) = ((i + 1 : Nat) : Int) := xdh (by omega)
     have hwn : IntKind.i64.wrap ((n : Int) - 1) = ((n - 1 : Nat) : Int) := by rw [xe6 (by omega)]; omega
     obtain ⟨q1, q2⟩ := xAR (pr := (prx k).1) (g := (prx k).2) (n := (n : Int)) hok hl hi'
     have hsub : ∀ x ∈ (list.drop (i + 1)).filter (apF list[i]), x ∈ list := fun x hx => List.mem_of_mem_drop (List.mem_filter.1 hx).1
     have hlr : ((list.drop (i + 1)).filter (apF list[i])).length ≤ 1000000 := Nat.le_trans (List.length_filter_le _ _) (by rw [List.length_drop]; omega)
     have hs' : xeD ((list.drop (i + 1)).filter (apF list[i])) := fun x hx => hs x (hsub x hx)
     have hok' : xuv ((list.drop (i + 1)).filter (apF list[i])) := fun x hx => hok x (hsub x hx)
     obtain ⟨f1, f2⟩ := xt7 hs' hlr
     obtain ⟨p1, p2⟩ := xz6 k (n - 1) _ (by omega) (by omega) hs' hok' hlr
     have hplen := xrq k ((n - 1 : Nat) : Int) ((list.drop (i + 1)).filter (apF list[i]))
     have hstep : xgm (prx k).1 (prx k).2 n list [.i i] = if ((fewF ((list.drop (i + 1)).filter (apF list[i]))).length : Int) = n - 1 then some (1, [.r ([col list[i] 0, col list[i] 1] :: prF k (n - 1) ((list.drop (i + 1)).filter (apF list[i])))]) else some (0, [.i ((i + 1 : Nat) : Int)]) := by
      unfold xgm xz7
      simp only [gi_z, hw, hwn]
      rw [q2, f2, p2, dlt hi', xaa (xay hi'), xaa (xay hi'), xaa (by omega), xaa q1, xaa f1, xaa p1, xaS hi',
       xaa (by unfold xbf maxLen; simp only [List.length_cons, List.length_nil]; omega)]
      have en : ((n - 1 : Nat) : Int) = (n : Int) - 1 := by omega
      rw [en]
      by_cases h : ((fewF ((list.drop (i + 1)).filter (apF list[i]))).length : Int) = n - 1
      ·rw [if_pos h, h, beq_self_eq_true, cond_true]; rfl
      ·rw [if_neg h, bne h]; rfl
     rw [List.drop_eq_getElem_cons hi']
     unfold goP
     by_cases h : ((fewF ((list.drop (i + 1)).filter (apF list[i]))).length : Int) = n - 1
     ·rw [if_pos h] at hstep
      rw [if_pos h]
      refine ⟨1, _, xjn hstep, ?_⟩
      exact gr_z _ []
     ·rw [if_neg h] at hstep
      rw [if_neg h]
      obtain ⟨q, r, h1, h2⟩ := ih (i + 1) (by omega)
      exact ⟨q + 1, r, xiL hstep h1, h2⟩
   obtain ⟨q, r, h1, h2⟩ := key list.length 0 (by omega)
   have hinit : xlR (prx k).1 (prx k).2 n list = [.i ((0 : Nat) : Int)] := rfl
   obtain ⟨g1, g2⟩ := xlX h1
   refine ⟨fun _ => by rw [hinit]; exact g1, ?_⟩
   unfold xzu xxE
   rw [hn0, cond_false, hinit, g2]
   show _ = if (n : Int) = 0 then [] else goP (prF k) n list
   rw [if_neg (by omega)]
   exact h2
theorem xh9 (b : Bool) : (!!b) = b := by cases b <;> rfl
def xjs (gs : List (List Int)) : List (List Int) := gs.map fun g => [col g 0, col g 1]
theorem xBv {ow t delay : Int} {office ships list : List (List Int)} (ho : office.length ≤ 9223372036854775807) (hs : ships.length ≤ 9223372036854775807) (hl : list.length ≤ 9223372036854775807) (hd : xqP ships) :
  xcW ow t delay office ships list ∧ xej ow t delay office ships list = (if xi9 ow t delay office (xax ships) list = true then xjs (xdR office (xax ships) t delay list) else []) ∧ xei ow t delay office ships list = if xi9 ow t delay office (xax ships) list = true then 0 else 1 := by
 have hv := xfF ow office ho
 have hc := xi8 list hl
 obtain ⟨o1, o2, o3⟩ := xvO (ow := ow) (t := t) (delay := delay) (office := office) (list := list) hs hd
 unfold xcW xej xkB xkC xei xkz xkA
 rw [xs2 ho hl, xvj]
 cases h1 : xhI ow t delay office list with
 | false => exact ⟨⟨hv.1, fun _ => hc.1, fun h => by cases h⟩, rfl, rfl⟩
 | true =>
  cases h2 : risF 0 (xax ships) with
  | false =>
   have e := o3 h2
   rw [e]
   exact ⟨⟨hv.1, fun _ => hc.1, fun _ => ⟨o1, fun h => by cases h⟩⟩, rfl, rfl⟩
  | true =>
   obtain ⟨e, er⟩ := o2 h2
   obtain ⟨p1, p2⟩ := xxM (ow := ow) (t := t) (delay := delay) (office := office) hl hs hd h2
   obtain ⟨g1, g2⟩ := xu8 (t := t) ho h1 h2
   rw [e, xh9, p2]
   rw [show (xaq ow t delay office ships list).snd = (xaq ow t delay office ships list).2 from rfl, er]
   cases h3 : list.any (xmH (xax ships)) with
   | true => exact ⟨⟨hv.1, fun _ => hc.1, fun _ => ⟨o1, fun _ => ⟨p1, fun h => by cases h⟩⟩⟩, rfl, rfl⟩
   | false =>
    have hch : chF list = true := by
     unfold xhI at h1
     simp only [Bool.and_eq_true] at h1
     exact h1.1.1.1.2
    obtain ⟨k1, k2, k3⟩ := xm2 (office := office) (logs := xax ships) (tm := t) (dl := delay) hch
    have hl200 := (xne hch).1
    obtain ⟨q1, q2⟩ := xb2 (step := xcd ow t delay office ships list) (xdR office (xax ships) t delay list) (fun i (s : List (List Int)) => [.i i, .r s]) (fun s x => .inl (s ++ [[col x 0, col x 1]])) (fun i s => s.length ≤ i) (fun s => (1, [.i ((xdR office (xax ships) t delay list).length : Nat), .r s])) 0
     (fun i s hi _ hI => by
      refine ⟨?_, fun s' hs' => by cases hs'; simp; exact hI⟩
      unfold xcd xhz
      simp only [gi_z, gr_1, gr_z]
      rw [show (xaq ow t delay office ships list).snd = (xaq ow t delay office ships list).2 from rfl, er, g2, dlt hi, xaa (xay hi), xaa (xay hi), xaS hi, xdh (by omega), xaa (by unfold xbf maxLen; simp only [List.length_cons, List.length_nil]; omega)]
      rfl)
     (fun i s hi _ => by
      have : i = (xdR office (xax ships) t delay list).length := by omega
      subst this
      unfold xcd
      simp only [gi_z, gr_1, gr_z]
      rw [show (xaq ow t delay office ships list).snd = (xaq ow t delay office ships list).2 from rfl, er, g2, dnlt]) (s := []) (Nat.zero_le _)
    refine ⟨⟨hv.1, fun _ => hc.1, fun _ => ⟨o1, fun _ => ⟨p1, fun _ => ⟨g1, q1⟩⟩⟩⟩, ?_, rfl⟩
    have el : xkE ow t delay office ships list = xan (xcd ow t delay office ships list) [.i ((0 : Nat) : Int), .r []] := rfl
    have ef : ∀ (l s : List (List Int)), l.foldl (fun s x => s ++ [[col x 0, col x 1]]) s = s ++ xjs l := by
     intro l
     induction l with
     | nil => intro s; simp [xjs]
     | cons x r ih => intro s; rw [List.foldl_cons, ih]; simp [xjs]
    rw [el, q2, List.drop_zero, xdY, ef, List.nil_append]
    show gr [U.i ((xdR office (xax ships) t delay list).length : Nat), U.r (xjs (xdR office (xax ships) t delay list))] 1 = xjs (xdR office (xax ships) t delay list)
    rw [gr_1, gr_z]
theorem xqn (list : List (List Int)) : (fewF list).length ≤ (byF 0 list).length := by
 have : ∀ n, (upto (xd7 list) n (byF 0 list)).length ≤ (byF 0 list).length := by
  intro n
  induction n with
  | zero => exact Nat.le_refl _
  | succ n ih =>
   have e : upto (xd7 list) (n + 1) (byF 0 list) = xd7 list n (upto (xd7 list) n (byF 0 list)) := rfl
   rw [e]
   generalize upto (xd7 list) n (byF 0 list) = b at *
   unfold xd7
   split
   ·split
    ·rename_i hb
     unfold xe9 at hb
     simp only [Bool.or_eq_true, Bool.and_eq_true, decide_eq_true_eq, beq_iff_eq] at hb
     rcases hb with hb | hb
     ·omega
     ·have := hb.1; omega
    ·exact ih
   ·exact ih
 exact this _
theorem xrV {ow t delay : Int} {office ships list : List (List Int)} (ho : office.length ≤ 9223372036854775807) (hs : ships.length ≤ 9223372036854775807) (hl : list.length ≤ 9223372036854775807) (hd : xqP ships) (h90 : list.length ≤ 90 ∨ 200 < list.length) :
  xby ow t delay office ships list ∧ xam ow t delay office ships list = (if xi9 ow t delay office (xax ships) list = true then fewF (xdR office (xax ships) t delay list) else []) ∧
  xdg ow t delay office ships list = (if xi9 ow t delay office (xax ships) list = true then prF 100 ((fewF (xdR office (xax ships) t delay list)).length : Nat) (xdR office (xax ships) t delay list) else []) ∧
  xbB ow t delay office ships list = if xi9 ow t delay office (xax ships) list = true then 0 else 1 := by
 have hv := xfF ow office ho
 have hc := xi8 list hl
 obtain ⟨o1, o2, o3⟩ := xvO (ow := ow) (t := t) (delay := delay) (office := office) (list := list) hs hd
 have es0 : xd5 ow t delay office ships list = xbj ow t delay office ships list := rfl
 have ei0 : xd6 ow t delay office ships list = xce ow t delay office ships list := rfl
 have el0 : xaP ow t delay office ships list = xaq ow t delay office ships list := rfl
 have es1 : xd3 ow t delay office ships list = xbi ow t delay office ships list := rfl
 have ei1 : xd4 ow t delay office ships list = xc1 ow t delay office ships list := rfl
 have el1 : xbs ow t delay office ships list = xbK ow t delay office ships list := rfl
 unfold xby xam xhZ xh0 xdg xhX xhY xbB xhV xhW
 rw [es0, ei0, el0, es1, ei1, el1, xs2 ho hl, xvj]
 cases h1 : xhI ow t delay office list with
 | false => exact ⟨⟨hv.1, fun _ => hc.1, fun h => by cases h⟩, rfl, rfl, rfl⟩
 | true =>
  cases h2 : risF 0 (xax ships) with
  | false =>
   have e := o3 h2
   rw [e]
   exact ⟨⟨hv.1, fun _ => hc.1, fun _ => ⟨o1, fun h => by cases h⟩⟩, rfl, rfl, rfl⟩
  | true =>
   obtain ⟨e, er⟩ := o2 h2
   obtain ⟨p1, p2⟩ := xxM (ow := ow) (t := t) (delay := delay) (office := office) hl hs hd h2
   obtain ⟨g1, g2⟩ := xu8 (t := t) ho h1 h2
   rw [e, xh9, p2]
   rw [show (xaq ow t delay office ships list).snd = (xaq ow t delay office ships list).2 from rfl, er]
   cases h3 : list.any (xmH (xax ships)) with
   | true => exact ⟨⟨hv.1, fun _ => hc.1, fun _ => ⟨o1, fun _ => ⟨p1, fun h => by cases h⟩⟩⟩, rfl, rfl, rfl⟩
   | false =>
    have hch : chF list = true := by
     unfold xhI at h1
     simp only [Bool.and_eq_true] at h1
     exact h1.1.1.1.2
    obtain ⟨k1, k2, k3⟩ := xm2 (office := office) (logs := xax ships) (tm := t) (dl := delay) hch
    have hl200 := (xne hch).1
    have hl90 : list.length ≤ 90 := by omega
    obtain ⟨f1, f2⟩ := xt7 k1 (by omega)
    have hfl : (fewF (xdR office (xax ships) t delay list)).length < 100 := by
     have h0 := xqn (xdR office (xax ships) t delay list)
     have := xjB 0 (xdR office (xax ships) t delay list)
     omega
    obtain ⟨x1, x2⟩ := xz6 100 (fewF (xdR office (xax ships) t delay list)).length _ hfl (by omega) k1 k2 (by omega)
    rw [g2, f2]
    exact ⟨⟨hv.1, fun _ => hc.1, fun _ => ⟨o1, fun _ => ⟨p1, fun _ => ⟨g1, f1, x1⟩⟩⟩⟩, rfl, x2, rfl⟩
end Go.Proofs.YtikhnofbbcmpeaaGreat
set_option linter.unusedVariables false
set_option maxRecDepth 100000
namespace Go.Proofs.YtikhnofbbcmpeaaGreat
open Go Go.Sy
def xjd (cf : List Int → List Int → Int) : List (List Int) → Bool
 | x :: y :: r => decide (cf x y < 0) && xjd cf (y :: r)
 | _ => true
theorem xmo (cf : List Int → List Int → Int) : ∀ l : List (List Int), xjd cf l = true ↔ ∀ i (h : i + 1 < l.length), cf l[i] l[i + 1] < 0
 | [] => ⟨fun _ i h => by simp at h, fun _ => rfl⟩
 | [x] => ⟨fun _ i h => by simp at h, fun _ => rfl⟩
 | x :: y :: r => by
  show (decide (cf x y < 0) && xjd cf (y :: r)) = true ↔ _
  rw [Bool.and_eq_true, decide_eq_true_eq, xmo cf (y :: r)]
  constructor
  ·rintro ⟨h1, h2⟩ i hi
   cases i with
   | zero => exact h1
   | succ i => exact h2 i (by simpa using hi)
  ·intro h
   exact ⟨h 0 (by simp), fun i hi => h (i + 1) (by simpa using hi)⟩
theorem xpN {step : List U → Option (Nat × List U)} {l : List (List Int)} {cf : List Int → List Int → Int} (m : Nat) (hs : ∀ i (hi : i + 1 < l.length), step [.b false, .i ((i + 1 : Nat) : Int)] = bif decide (cf l[i] l[i + 1] ≥ 0) then some (1, []) else some (0, [.b false, .i ((i + 1 + 1 : Nat) : Int)]))
  (he : ∀ n : Nat, ¬ ((n : Int) < (l.length : Int)) → step [.b false, .i n] = some (m + 2, [.b false, .i n])) {init : List U} (hi : init = [.b false, .i ((0 + 1 : Nat) : Int)]) :
  xaz step init ∧ (bif (xan step init).fst.beq 1 then false else true) = xjd cf l := by
 subst hi
 obtain ⟨h1, h2⟩ := xd1 (step := step) (l.length - 1) (fun i => decide (cf (l.getD i []) (l.getD (i + 1) []) ≥ 0)) (fun i => [.b false, .i ((i + 1 : Nat) : Int)]) (fun i => []) 0 (m + 1) [.b false, .i ((l.length - 1 + 1 : Nat) : Int)]
  (fun i hi => by rw [hs i (by omega), xbe (by omega), xbe (by omega)]) (he _ (by omega))
 refine ⟨h1, ?_⟩
 rcases h2 with ⟨i, hi, hp, _, hg⟩ | ⟨hn, hg⟩
 ·rw [hg]
  rw [xbe (by omega), xbe (by omega)] at hp
  have : xjd cf l = false := by
   cases hr : xjd cf l with
   | false => rfl
   | true =>
    have := (xmo cf l).1 hr i (by omega)
    have := of_decide_eq_true hp
    omega
  rw [this]; rfl
 ·rw [hg]
  have : xjd cf l = true := (xmo cf l).2 fun i hi => by
   have := hn i (by omega)
   rw [xbe (by omega), xbe hi] at this
   have := of_decide_eq_false this
   omega
  rw [this]; rfl
def canF (g o : List Int) : Bool :=
 bif col o 0 == 1 && (col o 1 == 0 && (col o 2 == col g 1 && true)) then col g 2 != 0 else bif col o 0 == 2 && (col o 1 == col g 0 && (col o 2 == 0 && true)) then col g 3 != 0 else col o 0 == 3 && (col o 1 == col g 0 && (col o 2 == col g 1 && true))
def keyB (g p : List Int) : Bool := col g 0 == col p 0 && (col g 1 == col p 1 && true)
def verL (om pr : List (List Int)) : List (List Int) → List (List Int) → Option (List (List Int))
 | named, [] => some named
 | named, g :: r => if (om.any (canF g)) = true then (if pr.any (keyB g) = true then (if named.any (fun h => !apF g h) = true then none else verL om pr (named ++ [g]) r) else verL om pr named r) else none
noncomputable def verF (gs om pr : List (List Int)) : Bool := om.length == pr.length && xjd cfO om && xjd cfG pr && (match verL om pr [] gs with | some named => named.length == pr.length | none => false)
section
variable {ow t delay : Int} {office ships list om pr : List (List Int)}
theorem xzc : xez ow t delay office ships list om pr = xbj ow t delay office ships list ∧ xeA ow t delay office ships list om pr = xce ow t delay office ships list ∧ xap ow t delay office ships list om pr = xaq ow t delay office ships list ∧
  xex ow t delay office ships list om pr = xbi ow t delay office ships list ∧ xey ow t delay office ships list om pr = xc1 ow t delay office ships list ∧ xcx ow t delay office ships list om pr = xbK ow t delay office ships list := ⟨rfl, rfl, rfl, rfl, rfl, rfl⟩
theorem xAH (hom : om.length ≤ 9223372036854775807) : xaz (xcu ow t delay office ships list om pr) (xew ow t delay office ships list om pr) ∧ (bif (xdQ ow t delay office ships list om pr).fst.beq 1 then false else true) = xjd cfO om :=
 xpN (cf := cfO) 1 (fun i hi => by
   unfold xcu xiW
   have hw : IntKind.i64.wrap (((i + 1 : Nat) : Int) - 1) = ((i : Nat) : Int) := by rw [xe6 (by omega)]; omega
   simp only [gi_1, gi_z, gb_z, hw]
   rw [decide_eq_true (by omega), cond_true, xaa (xay (by omega)), xaa (xay (by omega)), xaa (xay hi), xaa (xay hi), xaa (xhg _ _ _ _ _ _).1, xaS hi, xaS (show i < om.length by omega), xdh (by omega)]
   rfl)
  (fun n hn => by
   unfold xcu
   simp only [gi_1, gi_z, gb_z]
   rw [decide_eq_false hn]; rfl) rfl
theorem xAG (hpr : pr.length ≤ 9223372036854775807) : xaz (xct ow t delay office ships list om pr) (xev ow t delay office ships list om pr) ∧ (bif (xe5 ow t delay office ships list om pr).fst.beq 1 then false else true) = xjd cfG pr :=
 xpN (cf := cfG) 1 (fun i hi => by
   unfold xct xiV
   have hw : IntKind.i64.wrap (((i + 1 : Nat) : Int) - 1) = ((i : Nat) : Int) := by rw [xe6 (by omega)]; omega
   simp only [gi_1, gi_z, gb_z, hw]
   rw [decide_eq_true (by omega), cond_true, xaa (xay (by omega)), xaa (xay (by omega)), xaa (xay hi), xaa (xay hi), xaa (xpk _ _ _ _).1, xaS hi, xaS (show i < pr.length by omega), xdh (by omega)]
   rfl)
  (fun n hn => by
   unfold xct
   simp only [gi_1, gi_z, gb_z]
   rw [decide_eq_false hn]; rfl) rfl
theorem xAF {gs : List (List Int)} (hg : xal ow t delay office (gr (xap ow t delay office ships list om pr).snd 3) list = gs) (hok : xuv gs) (hgs : gs.length ≤ 1000000) (hom : om.length ≤ 9223372036854775807) (hpr : pr.length ≤ 9223372036854775807) :
  xaz (xbn ow t delay office ships list om pr) (xeu ow t delay office ships list om pr) ∧
  (bif (xba ow t delay office ships list om pr).fst.beq 1 then false else bif (xba ow t delay office ships list om pr).fst.beq 2 then false else (↑(gr (xba ow t delay office ships list om pr).snd 3).length : Int) == (↑pr.length : Int)) = (match verL om pr [] gs with | some named => named.length == pr.length | none => false) := by
 have inner : ∀ (i : Nat) (hi : i < gs.length) (named : List (List Int)), named.length ≤ 9223372036854775807 →
   (xaz (xcs ow t delay office ships list om pr [.b false, .i 0, .i i, .r named]) (xet ow t delay office ships list om pr [.b false, .i 0, .i i, .r named]) ∧ decide ((bif (xe4 ow t delay office ships list om pr [.b false, .i 0, .i i, .r named]).fst.beq 1 then gi (xe4 ow t delay office ships list om pr [.b false, .i 0, .i i, .r named]).snd 0 else (-1 : Int)) ≥ 0) = om.any (canF gs[i])) ∧
   (xaz (xcr ow t delay office ships list om pr [.b false, .i 0, .i i, .r named]) (xes ow t delay office ships list om pr [.b false, .i 0, .i i, .r named]) ∧ decide ((bif (xe3 ow t delay office ships list om pr [.b false, .i 0, .i i, .r named]).fst.beq 1 then gi (xe3 ow t delay office ships list om pr [.b false, .i 0, .i i, .r named]).snd 0 else (-1 : Int)) ≥ 0) = pr.any (keyB gs[i])) ∧
   (xaz (xcq ow t delay office ships list om pr [.b false, .i 0, .i i, .r named]) (xer ow t delay office ships list om pr [.b false, .i 0, .i i, .r named]) ∧ decide ((bif (xe2 ow t delay office ships list om pr [.b false, .i 0, .i i, .r named]).fst.beq 1 then gi (xe2 ow t delay office ships list om pr [.b false, .i 0, .i i, .r named]).snd 0 else (-1 : Int)) ≥ 0) = named.any fun h => !apF gs[i] h) := by
  intro i hi named hnm
  refine ⟨xjl (l := om) (p := canF gs[i]) 1 (fun j hj => ?_) ?_ rfl, xjl (l := pr) (p := keyB gs[i]) 1 (fun j hj => ?_) ?_ rfl, xjl (l := named) (p := fun h => !apF gs[i] h) 1 (fun j hj => ?_) ?_ rfl⟩
  ·unfold xcs
   simp only [gi_2, gi_1, gi_z]
   rw [hg, dlt hj, xaa (xay hj), xaa (xay hj), xaS hj, xaS hi, xdh (by omega)]
   rfl
  ·unfold xcs
   simp only [gi_1, gi_z, dnlt]
  ·unfold xcr
   simp only [gi_2, gi_1, gi_z]
   rw [hg, dlt hj, xaa (xay hj), xaa (xay hj), xaS hj, xaS hi, xdh (by omega)]
   rfl
  ·unfold xcr
   simp only [gi_1, gi_z, dnlt]
  ·unfold xcq
   simp only [gi_2, gi_1, gi_z, gr_3, gr_z]
   rw [hg, dlt hj, xaa (xay hj), xaa (xay hj), xaS hj, xaS hi, xdh (by omega)]
   rfl
  ·unfold xcq
   simp only [gi_1, gi_z, gr_3, gr_z, dnlt]
 let f : List (List Int) → List Int → List (List Int) ⊕ (Nat × List U) := fun named g => if (om.any (canF g)) = true then (if pr.any (keyB g) = true then (if named.any (fun h => !apF g h) = true then .inr (1, []) else .inl (named ++ [g])) else .inl named) else .inr (0, [])
 obtain ⟨h1, h2⟩ := xb2 (step := xbn ow t delay office ships list om pr) gs (fun i (s : List (List Int)) => [.b false, .i 0, .i i, .r s]) f (fun i s => s.length ≤ i) (fun s => (4, [.b false, .i 0, .i gs.length, .r s])) 0
  (fun i s hi _ hI => by
   obtain ⟨⟨a1, a2⟩, ⟨b1, b2⟩, ⟨c1, c2⟩⟩ := inner i hi s (by omega)
   refine ⟨?_, fun s' hs' => ?_⟩
   ·have hn : [gs[i].getD 0 0, gs[i].getD 1 0, bif gs[i].getD 2 0 != 0 then 1 else 0, bif gs[i].getD 3 0 != 0 then 1 else 0] = gs[i] := hok _ (List.getElem_mem hi)
    have hn4 : xe1 ow t delay office ships list om pr [.b false, .i 0, .i i, .r s] = gs[i] := by
     unfold xe1 xiU
     simp only [gi_2, gi_1, gi_z]
     rw [hg, xaS hi]
     exact hn
    unfold xbn
    simp only [gi_2, gi_1, gi_z, gb_z, gr_3, gr_z]
    rw [a2, b2, c2, hn4, hg, dlt hi, xaa (xay hi), xaa (xay hi), xaa a1, xaa b1, xaa c1, xdh (by omega), xaa (by unfold xbf maxLen; simp only [List.length_cons, List.length_nil]; omega)]
    show _ = goOn _ (if (om.any (canF gs[i])) = true then (if pr.any (keyB gs[i]) = true then (if s.any (fun h => !apF gs[i] h) = true then .inr (1, []) else .inl (s ++ [gs[i]])) else .inl s) else .inr (0, []))
    cases om.any (canF gs[i])
    ·rw [if_neg (by decide)]; rfl
    ·rw [if_pos rfl]
     cases pr.any (keyB gs[i])
     ·rw [if_neg (by decide)]; rfl
     ·rw [if_pos rfl]
      cases s.any fun h => !apF gs[i] h
      ·rw [if_neg (by decide)]; rfl
      ·rw [if_pos rfl]; rfl
   ·have hs' : (if (om.any (canF gs[i])) = true then (if pr.any (keyB gs[i]) = true then (if s.any (fun h => !apF gs[i] h) = true then .inr (1, []) else .inl (s ++ [gs[i]])) else .inl s) else .inr (0, []) : List (List Int) ⊕ (Nat × List U)) = .inl s' := hs'
    split at hs'
    ·split at hs'
     ·split at hs'
      ·cases hs'
      ·cases hs'; simp; omega
     ·cases hs'; omega
    ·cases hs')
  (fun i s hi _ => by
   have : i = gs.length := by omega
   subst this
   unfold xbn
   simp only [gi_2, gi_1, gi_z, gb_z, gr_3, gr_z]
   rw [hg, dnlt]) (s := []) (Nat.zero_le _)
 refine ⟨h1, ?_⟩
 have el : xba ow t delay office ships list om pr = xan (xbn ow t delay office ships list om pr) [.b false, .i 0, .i ((0 : Nat) : Int), .r []] := rfl
 rw [el, h2, List.drop_zero]
 have run : ∀ (r : List (List Int)) (named : List (List Int)), (bif (endL (fun s : List (List Int) => (4, [.b false, .i 0, .i gs.length, .r s])) (runL f named r)).1.beq 1 then false else bif (endL (fun s : List (List Int) => (4, [.b false, .i 0, .i gs.length, .r s])) (runL f named r)).1.beq 2 then false else (↑(gr (endL (fun s : List (List Int) => (4, [.b false, .i 0, .i gs.length, .r s])) (runL f named r)).2 3).length : Int) == (↑pr.length : Int)) = (match verL om pr named r with | some named => named.length == pr.length | none => false) := by
  intro r
  induction r with
  | nil =>
   intro named
   show ((↑(gr [.b false, .i 0, .i gs.length, .r named] 3).length : Int) == (↑pr.length : Int)) = (named.length == pr.length)
   rw [gr_3, gr_z]
   by_cases h : named.length = pr.length
   ·rw [h]; simp
   ·have h1 : ¬ (named.length : Int) = (pr.length : Int) := by omega
    rw [bne h1]
    simpa using h
  | cons g r ih =>
   intro named
   have ef : f named g = if (om.any (canF g)) = true then (if pr.any (keyB g) = true then (if named.any (fun h => !apF g h) = true then .inr (1, []) else .inl (named ++ [g])) else .inl named) else .inr (0, []) := rfl
   unfold runL verL
   by_cases h1 : om.any (canF g) = true
   ·rw [if_pos h1] at ef
    rw [if_pos h1]
    by_cases h2 : pr.any (keyB g) = true
    ·rw [if_pos h2] at ef
     rw [if_pos h2]
     by_cases h3 : named.any (fun h => !apF g h) = true
     ·rw [if_pos h3] at ef
      rw [if_pos h3, ef]; rfl
     ·rw [if_neg h3] at ef
      rw [if_neg h3, ef]
      exact ih _
    ·rw [if_neg h2] at ef
     rw [if_neg h2, ef]
     exact ih _
   ·rw [if_neg h1] at ef
    rw [if_neg h1, ef]; rfl
 exact run gs []
theorem xy9 (ho : office.length ≤ 9223372036854775807) (hs : ships.length ≤ 9223372036854775807) (hl : list.length ≤ 9223372036854775807) (hd : xqP ships) (hom : om.length ≤ 9223372036854775807) (hpr : pr.length ≤ 9223372036854775807) :
  xcc ow t delay office ships list om pr ∧ xcV ow t delay office ships list om pr = (xi9 ow t delay office (xax ships) list && verF (xdR office (xax ships) t delay list) om pr) ∧ xds ow t delay office ships list om pr = if xi9 ow t delay office (xax ships) list = true then 0 else 1 := by
 have hv := xfF ow office ho
 have hc := xi8 list hl
 obtain ⟨o1, o2, o3⟩ := xvO (ow := ow) (t := t) (delay := delay) (office := office) (list := list) hs hd
 obtain ⟨es0, ei0, el0, es1, ei1, el1⟩ := xzc (ow := ow) (t := t) (delay := delay) (office := office) (ships := ships) (list := list) (om := om) (pr := pr)
 obtain ⟨r1, r2⟩ := xAH (ow := ow) (t := t) (delay := delay) (office := office) (ships := ships) (list := list) (pr := pr) hom
 obtain ⟨s1, s2⟩ := xAG (ow := ow) (t := t) (delay := delay) (office := office) (ships := ships) (list := list) (om := om) hpr
 have elen : ((om.length : Int) != (pr.length : Int)) = !(om.length == pr.length) := by
  by_cases h : om.length = pr.length
  ·rw [h]; simp
  ·have h1 : ¬ (om.length : Int) = (pr.length : Int) := by omega
   show (!((om.length : Int) == (pr.length : Int))) = _
   rw [bne h1]
   simpa using h
 unfold xcc xcV xds xiR xiS xiT
 rw [r2, s2, elen]
 rw [es0, ei0, el0, es1, ei1, el1, xs2 ho hl, xvj]
 cases h1 : xhI ow t delay office list with
 | false => exact ⟨⟨hv.1, fun _ => hc.1, fun h => by cases h⟩, rfl, rfl⟩
 | true =>
  cases h2 : risF 0 (xax ships) with
  | false =>
   have e := o3 h2
   rw [e]
   exact ⟨⟨hv.1, fun _ => hc.1, fun _ => ⟨o1, fun h => by cases h⟩⟩, rfl, rfl⟩
  | true =>
   obtain ⟨e, er⟩ := o2 h2
   obtain ⟨p1, p2⟩ := xxM (ow := ow) (t := t) (delay := delay) (office := office) hl hs hd h2
   obtain ⟨g1, g2⟩ := xu8 (t := t) ho h1 h2
   rw [e, xh9, p2]
   have er' : gr (xaq ow t delay office ships list).snd 3 = ships.map rowO := er
   cases h3 : list.any (xmH (xax ships)) with
   | true => exact ⟨⟨hv.1, fun _ => hc.1, fun _ => ⟨o1, fun _ => ⟨p1, fun h => by cases h⟩⟩⟩, rfl, rfl⟩
   | false =>
    have hch : chF list = true := by
     unfold xhI at h1
     simp only [Bool.and_eq_true] at h1
     exact h1.1.1.1.2
    obtain ⟨k1, k2, k3⟩ := xm2 (office := office) (logs := xax ships) (tm := t) (dl := delay) hch
    have hl200 := (xne hch).1
    obtain ⟨v1, v2⟩ := xAF (ow := ow) (t := t) (delay := delay) (office := office) (ships := ships) (list := list) (om := om) (pr := pr) (gs := xdR office (xax ships) t delay list) (by rw [el0, er', g2]) k2 (by omega) hom hpr
    rw [er']
    refine ⟨⟨hv.1, fun _ => hc.1, fun _ => ⟨o1, fun _ => ⟨p1, fun _ => ⟨fun _ => r1, fun _ => s1, fun _ => ⟨g1, v1⟩⟩⟩⟩⟩, ?_, ?_⟩
    ·unfold verF
     rw [← v2]
     cases (om.length == pr.length) <;> cases xjd cfO om <;> cases xjd cfG pr <;> rfl
    ·cases (om.length == pr.length) <;> cases xjd cfO om <;> cases xjd cfG pr <;> cases (xba ow t delay office ships list om pr).fst.beq 1 <;> cases (xba ow t delay office ships list om pr).fst.beq 2 <;> rfl
end
end Go.Proofs.YtikhnofbbcmpeaaGreat
set_option linter.unusedVariables false
set_option maxRecDepth 100000
namespace Go.Proofs.YtikhnofbbcmpeaaGreat
open Go Go.Sy
def xlc (eq : List Int → List Int → Bool) : List (List Int) → List (List Int) → Bool
 | [], [] => true
 | x :: r, y :: r' => eq x y && xlc eq r r'
 | _, _ => false
theorem xml {eq : List Int → List Int → Bool} : ∀ {a b : List (List Int)}, a.length ≠ b.length → xlc eq a b = false
 | [], [], h => absurd rfl h
 | [], _ :: _, _ => rfl
 | _ :: _, [], _ => rfl
 | x :: r, y :: r', h => by
  unfold xlc
  rw [xml (by simpa using h), Bool.and_false]
theorem xpK {eq : List Int → List Int → Bool} : ∀ {a b : List (List Int)}, a.length = b.length → (xlc eq a b = true ↔ ∀ i (h : i < a.length) (h' : i < b.length), eq a[i] b[i] = true)
 | [], [], _ => ⟨(fun _ i h => by cases h), fun _ => rfl⟩
 | x :: r, y :: r', h => by
  show (eq x y && xlc eq r r') = true ↔ _
  rw [Bool.and_eq_true, xpK (by simpa using h)]
  constructor
  ·rintro ⟨h1, h2⟩ i hi hi'
   cases i with
   | zero => exact h1
   | succ i => exact h2 i (by simpa using hi) (by simpa using hi')
  ·intro h
   exact ⟨h 0 (by simp) (by simp), fun i hi hi' => h (i + 1) (by simpa using hi) (by simpa using hi')⟩
theorem xpJ {step : List U → Option (Nat × List U)} {a b : List (List Int)} {eq : List Int → List Int → Bool} (m : Nat) (hlen : a.length = b.length)
  (hs : ∀ i (h : i < a.length) (h' : i < b.length), step [.b false, .i i] = bif eq a[i] b[i] then some (0, [.b false, .i ((i + 1 : Nat) : Int)]) else some (1, []))
  (he : step [.b false, .i a.length] = some (m + 2, [.b false, .i a.length])) {init : List U} (hi : init = [.b false, .i ((0 : Nat) : Int)]) :
  xaz step init ∧ (bif (xan step init).fst.beq 1 then false else true) = xlc eq a b := by
 subst hi
 obtain ⟨h1, h2⟩ := xd1 (step := step) a.length (fun i => !eq (a.getD i []) (b.getD i [])) (fun i => [.b false, .i i]) (fun i => []) 0 (m + 1) [.b false, .i a.length]
  (fun i hi => by
   rw [hs i hi (by omega), xbe hi, xbe (by omega)]
   cases eq a[i] b[i] <;> rfl) he
 refine ⟨h1, ?_⟩
 rcases h2 with ⟨i, hi, hp, _, hg⟩ | ⟨hn, hg⟩
 ·rw [hg]
  have : xlc eq a b = false := by
   cases hr : xlc eq a b with
   | false => rfl
   | true =>
    have h := (xpK hlen).1 hr i hi (by omega)
    rw [xbe hi, xbe (by omega), h] at hp
    cases hp
  rw [this]; rfl
 ·rw [hg]
  have : xlc eq a b = true := (xpK hlen).2 fun i h h' => by
   have := hn i h
   rw [xbe h, xbe h'] at this
   simpa using this
  rw [this]; rfl
theorem lenI {a b : List (List Int)} : ((a.length : Int) != (b.length : Int)) = !decide (a.length = b.length) := by
 by_cases h : a.length = b.length
 ·rw [h]; simp
 ·have h1 : ¬ (a.length : Int) = (b.length : Int) := by omega
  show (!((a.length : Int) == (b.length : Int))) = _
  rw [bne h1, decide_eq_false h]
def eq1 (x y : List Int) : Bool := col x 0 == col y 0
def eq2 (x y : List Int) : Bool := col x 0 == col y 0 && (col x 1 == col y 1 && true)
def eq3 (x y : List Int) : Bool := col x 0 == col y 0 && (col x 1 == col y 1 && (col x 2 == col y 2 && true))
theorem xvz (a b : List (List Int)) (ha : a.length ≤ 9223372036854775807) : xdC a b ∧ xdV a b = xlc eq1 a b := by
 unfold xdC xdV
 rw [lenI]
 by_cases hlen : a.length = b.length
 ·obtain ⟨h1, h2⟩ := xpJ (step := xdu a b) (a := a) (b := b) (eq := eq1) 1 hlen (fun i h h' => by
    unfold xdu
    simp only [gi_1, gi_z, gb_z]
    rw [dlt h, xaa (xay h), xaa (xay h), xaa (xay h'), xaa (xay h'), xaS h, xaS h', xdh (by omega)]
    show (bif !(eq1 a[i] b[i]) then _ else _) = _
    cases eq1 a[i] b[i] <;> rfl)
   (by
    unfold xdu
    simp only [gi_1, gi_z, gb_z, dnlt]) (init := xfN a b) rfl
  rw [decide_eq_true hlen]
  exact ⟨fun _ => h1, h2⟩
 ·rw [decide_eq_false hlen, xml hlen]
  exact ⟨(fun h => by cases h), rfl⟩
theorem xjF (a b : List (List Int)) (ha : a.length ≤ 9223372036854775807) : xb1 a b ∧ xbM a b = xlc eq2 a b := by
 unfold xb1 xbM
 rw [lenI]
 by_cases hlen : a.length = b.length
 ·obtain ⟨h1, h2⟩ := xpJ (step := xcl a b) (a := a) (b := b) (eq := eq2) 1 hlen (fun i h h' => by
    unfold xcl
    simp only [gi_1, gi_z, gb_z]
    rw [dlt h, xaa (xay h), xaa (xay h), xaa (xay h'), xaa (xay h'), xaS h, xaS h', xdh (by omega)]
    show (bif !(eq2 a[i] b[i]) then _ else _) = _
    cases eq2 a[i] b[i] <;> rfl)
   (by
    unfold xcl
    simp only [gi_1, gi_z, gb_z, dnlt]) (init := xem a b) rfl
  rw [decide_eq_true hlen]
  exact ⟨fun _ => h1, h2⟩
 ·rw [decide_eq_false hlen, xml hlen]
  exact ⟨(fun h => by cases h), rfl⟩
theorem xuu (a b : List (List Int)) (ha : a.length ≤ 9223372036854775807) : xbA a b ∧ xbQ a b = xlc eq3 a b := by
 unfold xbA xbQ
 rw [lenI]
 by_cases hlen : a.length = b.length
 ·obtain ⟨h1, h2⟩ := xpJ (step := xbw a b) (a := a) (b := b) (eq := eq3) 1 hlen (fun i h h' => by
    unfold xbw
    simp only [gi_1, gi_z, gb_z]
    rw [dlt h, xaa (xay h), xaa (xay h), xaa (xay h'), xaa (xay h'), xaS h, xaS h', xdh (by omega)]
    show (bif !(eq3 a[i] b[i]) then _ else _) = _
    cases eq3 a[i] b[i] <;> rfl)
   (by
    unfold xbw
    simp only [gi_1, gi_z, gb_z, dnlt]) (init := xdi a b) rfl
  rw [decide_eq_true hlen]
  exact ⟨fun _ => h1, h2⟩
 ·rw [decide_eq_false hlen, xml hlen]
  exact ⟨(fun h => by cases h), rfl⟩
def addE (o t k n : Int) (l : List (List Int)) : Int :=
 if (valF o l && lnF t k n) = false then 1 else if ownF o k = false then 12 else if 200 ≤ l.length then 2 else if t < xnK 0 (-1) l then 13 else if (k == 4 && !onF 10000000 true l) = true then 6 else if (k == 5 && onF 10000000 true l) = true then 6 else 0
def addL (o t k n : Int) (l : List (List Int)) : List (List Int) := if addE o t k n l = 0 then l ++ [[t, k, n, sumF o (xnK 3 0 l) t k n]] else []
theorem xDa (o t k n : Int) (l : List (List Int)) (hl : l.length ≤ 9223372036854775807) : xeT o t k n l ∧ xf0 o t k n l = addL o t k n l ∧ xfZ o t k n l = (if addE o t k n l = 0 then o else 0) ∧ xfY o t k n l = addE o t k n l := by
 obtain ⟨v1, v2⟩ := xfF o l hl
 obtain ⟨o1, o2⟩ := xxQ o 10000000 l hl
 obtain ⟨l1, l2, l3⟩ := xuY o l hl
 have hQ : decide ((l.length : Int) ≥ (200 : Int)) = false → (xbJ o (xa4 o l) t k n (0 : Int)) ∧ ((((l = []) → ((True) ∧ (([] ++ l = []) ∧ (True)))) ∧ (xbf 32 (0 + l.length))) ∧ (xbf 32 (([] ++ l).length + [[t, k, n, xb4 o (xa4 o l) t k n (0 : Int)]].length))) := fun h => by
  have := of_decide_eq_false h
  refine ⟨(xvC _ _ _ _ _ _).1, ⟨fun h => ⟨trivial, by rw [h]; rfl, trivial⟩, by unfold xbf maxLen; omega⟩, ?_⟩
  unfold xbf maxLen
  simp only [List.nil_append, List.length_cons, List.length_nil]
  omega
 refine ⟨⟨l1, o1, v1, fun h1 h2 => ?_, fun _ _ _ h4 _ => ⟨fun a b => ?_, fun _ _ => hQ h4⟩⟩, ?_⟩
 ·rw [h1] at h2; cases h2
 ·rw [a] at b; cases b
 ·unfold xf0 xih xlw xlx xfZ xlu xlv xig xfY xls xlt xif addL addE
  rw [v2, o2, l2, l3, xx9, xAc, (xvC _ _ _ _ _ _).2]
  have e200 : decide ((l.length : Int) ≥ (200 : Int)) = decide (200 ≤ l.length) := decide_eq_decide.2 (by omega)
  rw [e200]
  cases hv : valF o l
  ·simp
  ·cases hln : lnF t k n
   ·simp
   ·cases hown : ownF o k
    ·simp
    ·by_cases h2 : 200 ≤ l.length
     ·simp [h2]
     ·by_cases h3 : t < xnK 0 (-1) l
      ·simp [h2, h3]
      ·cases h4 : (k == 4 && !onF 10000000 true l)
       ·cases h5 : (k == 5 && onF 10000000 true l)
        ·simp [h2, h3]
        ·simp [h2, h3]
       ·simp [h2, h3]
theorem xzV (o t k n : Int) (l : List (List Int)) : (addL o t k n l).length ≤ l.length + 1 := by
 unfold addL
 by_cases h : addE o t k n l = 0
 ·rw [if_pos h]; simp
 ·rw [if_neg h]; simp
def logF : Int × List (List Int) → List (List Int) → Int × List (List Int)
 | s, [] => s
 | s, x :: r => if addE s.1 (col x 0) (col x 1) (col x 2) s.2 = 0 then logF (s.1, addL s.1 (col x 0) (col x 1) (col x 2) s.2) r else (0, [])
theorem xvY (o : Int) (lines : List (List Int)) (hl : lines.length ≤ 1000000) : xbN o lines ∧ (xac o lines, xad o lines) = logF (o, []) lines := by
 let f : Int × List (List Int) → List Int → (Int × List (List Int)) ⊕ (Nat × List U) := fun s x => if addE s.1 (col x 0) (col x 1) (col x 2) s.2 = 0 then .inl (s.1, addL s.1 (col x 0) (col x 1) (col x 2) s.2) else .inr (0, [.i s.1, .r s.2])
 obtain ⟨h1, h2⟩ := xb2 (step := xdd o lines) lines (fun i (s : Int × List (List Int)) => [.i i, .i s.1, .r s.2]) f (fun i s => s.2.length ≤ i) (fun s => (2, [.i lines.length, .i s.1, .r s.2])) 0
  (fun i s hi _ hI => by
   obtain ⟨a1, a2, a3, a4⟩ := xDa s.1 (col lines[i] 0) (col lines[i] 1) (col lines[i] 2) s.2 (by omega)
   refine ⟨?_, fun s' hs' => ?_⟩
   ·unfold xdd xoB xoA xoz
    simp only [gi_z, gi_1, gr_2, gr_1, gr_z, dlt hi, xaa (xay hi), xaS hi, xdh (show i < 9223372036854775807 by omega)]
    rw [xaa a1, a2, a3, a4]
    show _ = goOn _ (if addE s.1 (col lines[i] 0) (col lines[i] 1) (col lines[i] 2) s.2 = 0 then .inl (s.1, addL s.1 (col lines[i] 0) (col lines[i] 1) (col lines[i] 2) s.2) else .inr (0, [.i s.1, .r s.2]))
    by_cases h : addE s.1 (col lines[i] 0) (col lines[i] 1) (col lines[i] 2) s.2 = 0
    ·rw [if_pos h, if_pos h, h]; rfl
    ·rw [if_neg h, if_neg h]
     have : (addE s.1 (col lines[i] 0) (col lines[i] 1) (col lines[i] 2) s.2 != 0) = true := by simpa using h
     rw [this]; rfl
   ·have hs' : (if addE s.1 (col lines[i] 0) (col lines[i] 1) (col lines[i] 2) s.2 = 0 then .inl (s.1, addL s.1 (col lines[i] 0) (col lines[i] 1) (col lines[i] 2) s.2) else .inr (0, [.i s.1, .r s.2]) : (Int × List (List Int)) ⊕ (Nat × List U)) = .inl s' := hs'
    split at hs'
    ·cases hs'
     exact Nat.le_trans (xzV _ _ _ _ _) (by omega)
    ·cases hs')
  (fun i s hi _ => by
   have : i = lines.length := by omega
   subst this
   unfold xdd
   simp only [gi_z, gi_1, gr_2, gr_1, gr_z, dnlt]) (s := (o, [])) (Nat.zero_le _)
 refine ⟨h1, ?_⟩
 have el : xgH o lines = xan (xdd o lines) [.i ((0 : Nat) : Int), .i o, .r []] := rfl
 unfold xac xad
 rw [el, h2, List.drop_zero]
 have run : ∀ (r : List (List Int)) (s : Int × List (List Int)), ((bif (endL (fun s : Int × List (List Int) => (2, [.i lines.length, .i s.1, .r s.2])) (runL f s r)).1.beq 1 then (0 : Int) else gi (endL (fun s : Int × List (List Int) => (2, [.i lines.length, .i s.1, .r s.2])) (runL f s r)).2 1), (bif (endL (fun s : Int × List (List Int) => (2, [.i lines.length, .i s.1, .r s.2])) (runL f s r)).1.beq 1 then [] else gr (endL (fun s : Int × List (List Int) => (2, [.i lines.length, .i s.1, .r s.2])) (runL f s r)).2 2)) = logF s r := by
  intro r
  induction r with
  | nil => intro s; rfl
  | cons x r ih =>
   intro s
   have ef : f s x = if addE s.1 (col x 0) (col x 1) (col x 2) s.2 = 0 then .inl (s.1, addL s.1 (col x 0) (col x 1) (col x 2) s.2) else .inr (0, [.i s.1, .r s.2]) := rfl
   unfold runL logF
   by_cases h : addE s.1 (col x 0) (col x 1) (col x 2) s.2 = 0
   ·rw [if_pos h] at ef
    rw [if_pos h, ef]
    exact ih _
   ·rw [if_neg h] at ef
    rw [if_neg h, ef]; rfl
 exact run lines (o, [])
end Go.Proofs.YtikhnofbbcmpeaaGreat
set_option linter.unusedVariables false
set_option maxRecDepth 100000
namespace Go.Proofs.YtikhnofbbcmpeaaGreat
open Go Go.Sy
def cmp3 (x y : List Int) : Int := if col x 0 < col y 0 then -1 else if col y 0 < col x 0 then 1 else if col x 1 < col y 1 then -1 else if col y 1 < col x 1 then 1 else if col x 2 < col y 2 then -1 else if col y 2 < col x 2 then 1 else 0
def cmp2 (x y : List Int) : Int := if col x 0 < col y 0 then -1 else if col y 0 < col x 0 then 1 else if col x 1 < col y 1 then -1 else if col y 1 < col x 1 then 1 else 0
theorem xpY (a b : Int) (r : List Int) (e : Int) (h : orL r = e) : orL ((if a < b then -1 else if b < a then 1 else 0) :: r) = if a < b then -1 else if b < a then 1 else e := by
 unfold orL
 by_cases h1 : a < b
 ·rw [if_pos h1, if_neg (by decide), if_pos h1]
 ·rw [if_neg h1, if_neg h1]
  by_cases h2 : b < a
  ·rw [if_pos h2, if_neg (by decide), if_pos h2]
  ·rw [if_neg h2, if_pos rfl, if_neg h2, h]
theorem xy2 : cfO = cmp3 := by
 funext x y
 unfold cfO cmp3
 rw [(xhg _ _ _ _ _ _).2]
 simp only [cmpC]
 exact xpY _ _ _ _ (xpY _ _ _ _ (xpY _ _ _ _ rfl))
theorem xCe : cfG = cmp2 := by
 funext x y
 unfold cfG cmp2
 rw [(xpk _ _ _ _).2]
 simp only [cmpC]
 exact xpY _ _ _ _ (xpY _ _ _ _ rfl)
def xzS : List (List Int) → List (List Int) → Int
 | [], [] => 0
 | [], _ :: _ => -1
 | _ :: _, [] => 1
 | x :: r, y :: r' => if cmp3 x y = 0 then xzS r r' else cmp3 x y
theorem xy0 : ∀ x y, cmpL x y = xzS x y
 | [], [] => rfl
 | [], _ :: _ => rfl
 | _ :: _, [] => rfl
 | x :: r, y :: r' => by
  unfold cmpL xzS
  rw [xy2, xy0 r r']
def xvt (x b : List (List Int)) : Bool := decide (x.length < b.length) || (x.length == b.length && decide (xzS x b < 0))
theorem xy6 : xe9 = xvt := by funext x b; unfold xe9 xvt; rw [xy0]
def xsO (list : List (List Int)) (i : Nat) (b : List (List Int)) : List (List Int) := if subB i (allF list) = true then (if xvt (byF i list) b = true then byF i list else b) else b
def fewC (list : List (List Int)) : List (List Int) := upto (xsO list) (allF list + 1) (byF 0 list)
theorem xva : fewF = fewC := by
 funext list
 unfold fewF fewC
 have : xd7 list = xsO list := by funext i b; unfold xd7 xsO; rw [xy6]
 rw [this]
def goC (k : Int → List (List Int) → List (List Int)) (n : Int) : List (List Int) → List (List Int)
 | [] => []
 | g :: r => if ((fewC (r.filter (apF g))).length : Int) = n - 1 then [col g 0, col g 1] :: k (n - 1) (r.filter (apF g)) else goC k n r
def prC : Nat → Int → List (List Int) → List (List Int)
 | 0, _, _ => []
 | m + 1, n, list => if n = 0 then [] else goC (prC m) n list
theorem xAr (k : Int → List (List Int) → List (List Int)) (n : Int) : ∀ l, goP k n l = goC k n l
 | [] => rfl
 | g :: r => by unfold goP goC; rw [xva, xAr k n r]
theorem xAb : ∀ m n l, prF m n l = prC m n l
 | 0, _, _ => rfl
 | m + 1, n, l => by
  unfold prF prC
  rw [xAr, show prF m = prC m from by funext n l; exact xAb m n l]
def verC (gs om pr : List (List Int)) : Bool := om.length == pr.length && xjd cmp3 om && xjd cmp2 pr && (match verL om pr [] gs with | some named => named.length == pr.length | none => false)
theorem xAE (gs om pr : List (List Int)) : verF gs om pr = verC gs om pr := by unfold verF verC; rw [xy2, xCe] <;> rfl
def hA0 : List (List Int) := (logF (0, []) [[10, 1, 7]]).2
def hA1 : List (List Int) := (logF (1, []) [[12, 3, 7]]).2
def hA3 : List (List Int) := (logF (3, []) [[5, 4, 0], [20, 5, 0], [40, 2, 9]]).2
noncomputable def xgc : List (List Int) := [[1, encL hA1], [2, encL []], [3, encL hA3]]
def xwV : List ALog := [(1, hA1), (2, []), (3, hA3)]
def hch : List (List Int) := [[1, 7, 10], [2, 7, 10], [3, 7, 10], [2, 9, 30], [3, 9, 30]]
theorem xgT : xbN 0 [[10, 1, 7]] ∧ xac 0 [[10, 1, 7]] = 0 ∧ xad 0 [[10, 1, 7]] = hA0 := by
 obtain ⟨h1, h2⟩ := xvY 0 [[10, 1, 7]] (by decide)
 exact ⟨h1, (congrArg Prod.fst h2).trans (by decide +kernel), congrArg Prod.snd h2⟩
theorem xA9 : xbN 1 [[12, 3, 7]] ∧ xac 1 [[12, 3, 7]] = 1 ∧ xad 1 [[12, 3, 7]] = hA1 := by
 obtain ⟨h1, h2⟩ := xvY 1 [[12, 3, 7]] (by decide)
 exact ⟨h1, (congrArg Prod.fst h2).trans (by decide +kernel), congrArg Prod.snd h2⟩
theorem xA8 : xbN 2 [] ∧ xac 2 [] = 2 ∧ xad 2 [] = [] := by
 obtain ⟨h1, h2⟩ := xvY 2 [] (by decide)
 exact ⟨h1, congrArg Prod.fst h2, congrArg Prod.snd h2⟩
theorem xA7 : xbN 3 xag ∧ xac 3 xag = 3 ∧ xad 3 xag = hA3 := by
 obtain ⟨h1, h2⟩ := xvY 3 [[5, 4, 0], [20, 5, 0], [40, 2, 9]] (by decide)
 exact ⟨h1, (congrArg Prod.fst h2).trans (by decide +kernel), congrArg Prod.snd h2⟩
theorem xq8 : [xaD, [xac (2 : Int) [], encL (xad (2 : Int) [])], [xac (3 : Int) xag, encL (xad (3 : Int) xag)]] = xgc := by
 unfold xaD
 rw [xA9.2.1, xA9.2.2, xA8.2.1, xA8.2.2, xA7.2.1, xA7.2.2]
 rfl
theorem xjr : xax xgc = xwV := by
 show [((1 : Int), decL (encL hA1)), (2, decL (encL [])), (3, decL (encL hA3))] = _
 rw [xft, xft, xft]
 rfl
theorem xu3 : xqP xgc := by
 intro x hx
 have hx : x = [1, encL hA1] ∨ x = [2, encL []] ∨ x = [3, encL hA3] := by simpa [xgc] using hx
 have l1 : hA1.length ≤ 9223372036854775807 := by decide +kernel
 have l3 : hA3.length ≤ 9223372036854775807 := by decide +kernel
 rcases hx with rfl | rfl | rfl
 ·show (decL (encL hA1)).length ≤ _
  rw [xft]; exact l1
 ·show (decL (encL [])).length ≤ _
  rw [xft]; decide
 ·show (decL (encL hA3)).length ≤ _
  rw [xft]; exact l3
theorem xu4 : xi9 0 50 5 hA0 xwV hch = true := by decide +kernel
theorem hco1 : coOk 0 1 10 hA0 hA1 hch = true := by decide +kernel
theorem hco3 : coOk 0 3 10 hA0 hA3 hch = true := by decide +kernel
theorem hfew : fewC (xdR hA0 xwV 50 5 hch) = [[1, 0, 9], [2, 2, 0], [2, 3, 0]] := by decide +kernel
theorem hprv : prC 100 3 (xdR hA0 xwV 50 5 hch) = [[2, 7], [3, 7], [3, 9]] := by decide +kernel
theorem hgap : xjs (xdR hA0 xwV 50 5 hch) = [[2, 7], [2, 9], [3, 7], [3, 9]] := by decide +kernel
theorem hver : verC (xdR hA0 xwV 50 5 hch) [[1, 0, 9], [2, 2, 0], [2, 3, 0]] [[2, 7], [3, 7], [3, 9]] = true := by decide +kernel
theorem hcr1 : xpZ (xug 1 10 hA0 hA1 hch) = [7] := by decide +kernel
theorem hcr3 : xpZ (xug 3 10 hA0 hA3 hch) = [] := by decide +kernel
theorem hsh1 : (valF 1 hA1 && tmF 12) = true ∧ xpH 12 hA1 = [7] := by decide +kernel
theorem hva3 : valF 3 hA3 = true := by decide +kernel
theorem xyd : hA0.length ≤ 9223372036854775807 := by decide +kernel
theorem xBT : hA1.length ≤ 9223372036854775807 := by decide +kernel
theorem xA3 : hA3.length ≤ 9223372036854775807 := by decide +kernel
theorem xA6 : xgc.length ≤ 9223372036854775807 := by show 3 ≤ 9223372036854775807; decide
theorem xyl : hch.length ≤ 9223372036854775807 := by decide
theorem hE : xby 0 50 5 hA0 xgc hch ∧ xam 0 50 5 hA0 xgc hch = [[1, 0, 9], [2, 2, 0], [2, 3, 0]] ∧ xdg 0 50 5 hA0 xgc hch = [[2, 7], [3, 7], [3, 9]] ∧ xbB 0 50 5 hA0 xgc hch = 0 := by
 obtain ⟨h1, h2, h3, h4⟩ := xrV (ow := 0) (t := 50) (delay := 5) xyd xA6 xyl xu3 (.inl (by decide))
 rw [xjr, xu4, if_pos rfl, xva, hfew] at h2
 rw [xjr, xu4, if_pos rfl, xva, hfew, xAb] at h3
 rw [xjr, xu4, if_pos rfl] at h4
 exact ⟨h1, h2, h3.trans hprv, h4⟩
theorem hG : xcW 0 50 5 hA0 xgc hch ∧ xej 0 50 5 hA0 xgc hch = [[2, 7], [2, 9], [3, 7], [3, 9]] ∧ xei 0 50 5 hA0 xgc hch = 0 := by
 obtain ⟨h1, h2, h3⟩ := xBv (ow := 0) (t := 50) (delay := 5) xyd xA6 xyl xu3
 rw [xjr, xu4, if_pos rfl, hgap] at h2
 rw [xjr, xu4, if_pos rfl] at h3
 exact ⟨h1, h2, h3⟩
theorem hV : xcc 0 50 5 hA0 xgc hch [[1, 0, 9], [2, 2, 0], [2, 3, 0]] [[2, 7], [3, 7], [3, 9]] ∧ xcV 0 50 5 hA0 xgc hch [[1, 0, 9], [2, 2, 0], [2, 3, 0]] [[2, 7], [3, 7], [3, 9]] = true ∧ xds 0 50 5 hA0 xgc hch [[1, 0, 9], [2, 2, 0], [2, 3, 0]] [[2, 7], [3, 7], [3, 9]] = 0 := by
 obtain ⟨h1, h2, h3⟩ := xy9 (ow := 0) (t := 50) (delay := 5) (office := hA0) (ships := xgc) (list := hch) (om := [[1, 0, 9], [2, 2, 0], [2, 3, 0]]) (pr := [[2, 7], [3, 7], [3, 9]]) xyd xA6 xyl xu3 (by decide) (by decide)
 rw [xjr, xu4, xAE, hver] at h2
 rw [xjr, xu4, if_pos rfl] at h3
 exact ⟨h1, h2, h3⟩
theorem hC1 : xbC 0 1 10 hA0 hA1 hch ∧ xcL 0 1 10 hA0 hA1 hch = [[7]] ∧ xcK 0 1 10 hA0 hA1 hch = 0 := by
 obtain ⟨h1, h2, h3⟩ := xws 0 1 10 hA0 hA1 hch xyd xBT xyl
 rw [hco1, if_pos rfl, hcr1] at h2
 rw [hco1, if_pos rfl] at h3
 exact ⟨h1, h2, h3⟩
theorem hC3 : xbC 0 3 10 hA0 hA3 hch ∧ xcL 0 3 10 hA0 hA3 hch = [] ∧ xcK 0 3 10 hA0 hA3 hch = 0 := by
 obtain ⟨h1, h2, h3⟩ := xws 0 3 10 hA0 hA3 hch xyd xA3 xyl
 rw [hco3, if_pos rfl, hcr3] at h2
 rw [hco3, if_pos rfl] at h3
 exact ⟨h1, h2, h3⟩
theorem hS1 : xcy 1 12 hA1 ∧ xcI 1 12 hA1 = [[7]] ∧ xdj 1 12 hA1 = 0 := by
 obtain ⟨h1, h2, h3⟩ := xzZ 1 12 hA1 xBT
 rw [hsh1.1, if_pos rfl, hsh1.2] at h2
 rw [hsh1.1, if_pos rfl] at h3
 exact ⟨h1, h2, h3⟩
theorem xAo : xaK = [1, encL hA1] := by unfold xaK; rw [xq8]; rfl
theorem xAn : xbp = [3, encL hA3] := by unfold xbp; rw [xq8]; rfl
theorem xjY : ([(1 : Int), (7 : Int), (10 : Int)] :: [(2 : Int), (7 : Int), (10 : Int)] :: xa1) = hch := rfl
theorem g20 : (xaK).getD 0 (0 : Int) = 1 := by rw [xAo]; rfl
theorem g21 : decL ((xaK).getD 1 (0 : Int)) = hA1 := by rw [xAo]; exact xft _
theorem g40 : (xbp).getD 0 (0 : Int) = 3 := by rw [xAn]; rfl
theorem g41 : decL ((xbp).getD 1 (0 : Int)) = hA3 := by rw [xAn]; exact xft _
theorem hd5 : xc3 = [[1, 0, 9], [2, 2, 0], [2, 3, 0]] := by
 unfold xc3
 rw [xgT.2.1, xgT.2.2, xq8, xjY, hE.2.1]
theorem hd6 : xcA = [[2, 7], [3, 7], [3, 9]] := by
 unfold xcA
 rw [xgT.2.1, xgT.2.2, xq8, xjY, hE.2.2.1]
theorem hd7 : xg4 = 0 := by
 unfold xg4
 rw [xgT.2.1, xgT.2.2, g20, g21, xjY, hC1.2.2]
theorem hd8 : xg3 = 0 := by
 unfold xg3
 rw [xgT.2.1, xgT.2.2, g40, g41, xjY, hC3.2.2]
theorem hd9 : xg2 = 0 := by
 unfold xg2
 rw [xgT.2.1, xgT.2.2, xq8, xjY, hG.2.2]
theorem hd10 : xgz = 0 := by
 unfold xgz
 rw [xgT.2.1, xgT.2.2, xq8, xjY, hE.2.2.2]
theorem hd11 : xgy = 0 := by
 unfold xgy
 rw [xgT.2.1, xgT.2.2, xq8, xjY, hd5, hd6, hV.2.2]
theorem hd12 : xfi = [[7]] := by
 unfold xfi
 rw [xgT.2.1, xgT.2.2, g20, g21, xjY, hC1.2.1]
theorem hd13 : xgx = [] := by
 unfold xgx
 rw [xgT.2.1, xgT.2.2, g40, g41, xjY, hC3.2.1]
theorem hd14 : xfh = [[2, 7], [2, 9], [3, 7], [3, 9]] := by
 unfold xfh
 rw [xgT.2.1, xgT.2.2, xq8, xjY, hG.2.1]
theorem xtY : xdX = true := by
 unfold xdX
 rw [xq8, xjY, xgT.2.1, xgT.2.2, hd5, hd6, hd7, hd8, hd9, hd10, hd11, hd12, hd13, hd14, g20, g21, g40, g41, hS1.2.1, hS1.2.2, hV.2.1, (xvz _ _ (by decide)).2, (xjF _ _ (by decide)).2, (xuu _ _ (by decide)).2, (xjF _ _ (by decide)).2, (xfF 3 hA3 xA3).2, hva3]
 rfl
theorem xsF : xeg := by
 unfold xeg
 rw [xq8, xjY, xgT.2.1, xgT.2.2, hd5, hd6, hd12, hd14, g20, g21, g40, g41, hS1.2.1]
 have r0 : inR (0 : Int) xgc := ⟨by decide, by show (0 : Int) < 3; decide⟩
 have r2 : inR (2 : Int) xgc := ⟨by decide, by show (2 : Int) < 3; decide⟩
 exact ⟨⟨xA9.1, xA8.1, xA7.1, xgT.1⟩, r0, r0, hC1.1, r2, r2, hC3.1, hG.1, hE.1, hV.1, r0, r0, hS1.1, fun _ => ⟨(xvz _ _ (by decide)).1, fun _ => ⟨(xvz _ _ (by decide)).1, fun _ => ⟨(xjF _ _ (by decide)).1, fun _ => ⟨(xuu _ _ (by decide)).1, fun _ => ⟨(xjF _ _ (by decide)).1, fun _ => r2, fun _ => ⟨r2, (xfF 3 hA3 xA3).1⟩⟩⟩⟩⟩⟩⟩
end Go.Proofs.YtikhnofbbcmpeaaGreat
set_option linter.unusedVariables false
set_option maxRecDepth 100000
namespace Go.Proofs.YtikhnofbbcmpeaaGreat
open Go Go.Sy
theorem xx6 {step : List U → Option (Nat × List U)} {l : List (List Int)} {p : List Int → Bool} (m : Nat) (hs : ∀ i (hi : i < l.length), step [.b false, .i i] = bif p l[i] then some (1, []) else some (0, [.b false, .i ((i + 1 : Nat) : Int)]))
  (he : step [.b false, .i l.length] = some (m + 2, [.b false, .i l.length])) {init : List U} (hi : init = [.b false, .i ((0 : Nat) : Int)]) :
  xaz step init ∧ (bif (xan step init).fst.beq 1 then true else false) = l.any p := by
 subst hi
 obtain ⟨h1, h2⟩ := xd1 (step := step) l.length (fun i => p (l.getD i [])) (fun i => [.b false, .i i]) (fun i => []) 0 (m + 1) [.b false, .i l.length]
  (fun i hi => by rw [hs i hi, xbe hi]) he
 refine ⟨h1, ?_⟩
 rcases h2 with ⟨i, hi, hp, _, hg⟩ | ⟨hn, hg⟩
 ·rw [hg]
  have : l.any p = true := List.any_eq_true.2 ⟨l[i], List.getElem_mem hi, by rw [← xbe hi]; exact hp⟩
  rw [this]; rfl
 ·rw [hg]
  have : l.any p = false := List.any_eq_false.2 fun x hx => by
   obtain ⟨i, hi, rfl⟩ := List.getElem_of_mem hx
   have := hn i hi
   simp only [xbe hi] at this
   simp [this]
  rw [this]; rfl
theorem xAY {step : List U → Option (Nat × List U)} (n m : Nat) (p : Nat → Bool) (hs : ∀ i, i < n → step [.b true, .i i] = some (0, [.b (p i), .i ((i + 1 : Nat) : Int)])) (hp : ∀ i, i < n → p i = true)
  (he : step [.b true, .i n] = some (m + 1, [.b true, .i n])) {init : List U} (hi : init = [.b true, .i ((0 : Nat) : Int)]) : xaz step init ∧ gb (xan step init).snd 0 = true := by
 subst hi
 obtain ⟨h1, h2, _⟩ := xmM (step := step) n (fun i (_ : Unit) => [.b true, .i i]) (fun _ s => s) (fun _ _ => True) m (fun _ => [.b true, .i n]) (fun _ _ _ _ => trivial) (fun i s hi _ => by rw [hs i hi, hp i hi]) (fun s _ => he) (s := ()) trivial
 refine ⟨h1, ?_⟩
 rw [h2]
 exact gb_z _ _
theorem xAZ {step : List U → Option (Nat × List U)} {l : List (List Int)} {p : List Int → Bool} (m : Nat) (hs : ∀ i b (hi : i < l.length), step [.b b, .i i] = some (0, [.b (b || p l[i]), .i ((i + 1 : Nat) : Int)]))
  (he : ∀ b, step [.b b, .i l.length] = some (m + 1, [.b b, .i l.length])) {init : List U} (hi : init = [.b false, .i ((0 : Nat) : Int)]) : xaz step init ∧ gb (xan step init).snd 0 = l.any p := by
 subst hi
 obtain ⟨h1, h2⟩ := xb2 (step := step) l (fun i (s : Bool) => [.b s, .i i]) (fun s x => .inl (s || p x)) (fun _ _ => True) (fun s => (m, [.b s, .i l.length])) 0 (fun i s hi _ _ => ⟨hs i s hi, fun _ _ => trivial⟩)
  (fun i s hi _ => by
   have : i = l.length := by omega
   subst this
   exact he s) (s := false) trivial
 refine ⟨h1, ?_⟩
 rw [h2, List.drop_zero, xdY]
 have : ∀ (l : List (List Int)) (b : Bool), l.foldl (fun s x => s || p x) b = (b || l.any p) := by
  intro l
  induction l with
  | nil => intro b; simp
  | cons x r ih => intro b; rw [List.foldl_cons, ih, List.any_cons, Bool.or_assoc]
 rw [this, Bool.false_or]
 exact gb_z _ _
def offR (t : Int) (l : List (List Int)) : Bool := l.foldl (fun off x => if (decide (col x 0 ≤ t) && (col x 1 == 4 || col x 1 == 5)) = true then col x 1 == 4 else off) false
theorem xCp (o t : Int) (l : List (List Int)) (hl : l.length ≤ 9223372036854775807) : xfL o t l ∧ xdZ o t l = offR t l := by
 obtain ⟨h1, h2⟩ := xb2 (step := xc7 o t l) l (fun i (s : Bool) => [.b s, .i i]) (fun off x => .inl (if (decide (col x 0 ≤ t) && (col x 1 == 4 || col x 1 == 5)) = true then col x 1 == 4 else off)) (fun _ _ => True) (fun s => (2, [.b s, .i l.length])) 0
  (fun i s hi _ _ => ⟨by
   have hr := xay hi
   unfold xc7
   simp only [gi_1, gi_z, gb_z]
   rw [dlt hi, xaa hr, xaa hr, xaa hr, xaa (fun _ => hr), xaa (fun _ => hr), xaa (fun _ => hr), xaa (fun _ _ => hr), xaa (fun _ _ => hr), xaa (fun _ _ => hr), xaa hr, xaa hr, xaa hr, xaS hi, xdh (by omega)]
   show (bif (decide (col l[i] 0 ≤ t) && (col l[i] 1 == 4 || col l[i] 1 == 5)) then _ else _) = _
   cases (decide (col l[i] 0 ≤ t) && (col l[i] 1 == 4 || col l[i] 1 == 5))
   ·rw [if_neg (by decide)]; rfl
   ·rw [if_pos rfl]; rfl, fun _ _ => trivial⟩)
  (fun i s hi _ => by
   have : i = l.length := by omega
   subst this
   unfold xc7
   simp only [gi_1, gi_z, gb_z, dnlt]) (s := false) trivial
 refine ⟨h1, ?_⟩
 have : xdZ o t l = gb (xan (xc7 o t l) [.b false, .i ((0 : Nat) : Int)]).snd 0 := rfl
 rw [this, h2, List.drop_zero, xdY]
 exact gb_z _ _
def hasR (k n a b : Int) (l : List (List Int)) : Bool := l.any fun x => col x 1 == k && col x 2 == n && decide (a ≤ col x 0) && decide (col x 0 ≤ b)
theorem xAC (o k n a b : Int) (l : List (List Int)) (hl : l.length ≤ 9223372036854775807) : xeX o k n a b l ∧ xeH o k n a b l = hasR k n a b l :=
 xx6 (step := xdM o k n a b l) 1 (fun i hi => by
   unfold xdM
   simp only [gi_1, gi_z, gb_z]
   rw [dlt hi, xaa (xay hi), xaa (xay hi), xaS hi, xdh (by omega)])
  (by unfold xdM; simp only [gi_1, gi_z, gb_z, dnlt]) rfl
theorem xvB {o : Int} : ∀ {l : List (List Int)} {off : Bool} {last now : Int}, vldF o off last now l = true → (∀ x ∈ l, now ≤ col x 0 ∧ lnF (col x 0) (col x 1) (col x 2) = true ∧ ownF o (col x 1) = true) ∧ l.Pairwise (fun a b => col a 0 ≤ col b 0)
 | [], _, _, _, _ => ⟨(fun x hx => by cases hx), List.Pairwise.nil⟩
 | x :: r, off, last, now, h => by
  unfold vldF at h
  split at h
  ·cases h
  ·rename_i h1
   have h1' : (!lnF (col x 0) (col x 1) (col x 2) || !ownF o (col x 1) || decide (col x 0 < now) || col x 3 != sumF o last (col x 0) (col x 1) (col x 2)) = false := by simpa using h1
   rw [Bool.or_eq_false_iff, Bool.or_eq_false_iff, Bool.or_eq_false_iff] at h1'
   obtain ⟨⟨⟨a1, a2⟩, a3⟩, a4⟩ := h1'
   have a3 := of_decide_eq_false a3
   have hr : ∃ off', vldF o off' (col x 3) (col x 0) r = true := by
    split at h
    ·split at h
     ·cases h
     ·exact ⟨_, h⟩
    ·exact ⟨_, h⟩
   obtain ⟨off', hr⟩ := hr
   obtain ⟨b1, b2⟩ := xvB hr
   refine ⟨fun y hy => ?_, List.pairwise_cons.2 ⟨fun y hy => (b1 y hy).1, b2⟩⟩
   rcases List.mem_cons.1 hy with rfl | hy
   ·exact ⟨by omega, by simpa using a1, by simpa using a2⟩
   ·have := b1 y hy
    exact ⟨by omega, this.2⟩
theorem xph {o : Int} {l : List (List Int)} (h : valF o l = true) : (∀ x ∈ l, 0 ≤ col x 0 ∧ lnF (col x 0) (col x 1) (col x 2) = true ∧ ownF o (col x 1) = true) ∧ l.Pairwise (fun a b => col a 0 ≤ col b 0) := by
 unfold valF at h
 rw [Bool.and_eq_true] at h
 exact xvB h.2
theorem cls3 (k : Int) : clsF k = 3 ↔ (k = 4 ∨ k = 5) := by
 unfold clsF
 by_cases h1 : k = 1
 ·rw [if_pos h1]; omega
 ·rw [if_neg h1]
  by_cases h2 : k = 2 ∨ k = 3
  ·rw [if_pos h2]; omega
  ·rw [if_neg h2]
   by_cases h3 : k = 4 ∨ k = 5
   ·rw [if_pos h3]; simp [h3]
   ·rw [if_neg h3]; simp [h3]
theorem xxP (t : Int) : ∀ {l : List (List Int)} (b : Bool), l.Pairwise (fun a b => col a 0 ≤ col b 0) → onF t b l = !(l.foldl (fun off x => if (decide (col x 0 ≤ t) && (col x 1 == 4 || col x 1 == 5)) = true then col x 1 == 4 else off) (!b))
 | [], b, _ => by simp [onF]
 | x :: r, b, h => by
  obtain ⟨h1, h2⟩ := List.pairwise_cons.1 h
  unfold onF
  rw [List.foldl_cons]
  by_cases ht : col x 0 > t
  ·rw [if_pos ht]
   have key : ∀ (l : List (List Int)) (c : Bool), (∀ y ∈ l, col y 0 > t) → l.foldl (fun off x => if (decide (col x 0 ≤ t) && (col x 1 == 4 || col x 1 == 5)) = true then col x 1 == 4 else off) c = c := by
    intro l
    induction l with
    | nil => intro c _; rfl
    | cons y r ih =>
     intro c hy
     rw [List.foldl_cons, decide_eq_false (show ¬ col y 0 ≤ t by have := hy y List.mem_cons_self; omega), Bool.false_and, if_neg (by decide)]
     exact ih c fun z hz => hy z (List.mem_cons_of_mem _ hz)
   rw [decide_eq_false (show ¬ col x 0 ≤ t by omega), Bool.false_and, if_neg (by decide), key r _ (fun y hy => by have := h1 y hy; omega), Bool.not_not]
  ·rw [if_neg ht, decide_eq_true (show col x 0 ≤ t by omega), Bool.true_and]
   by_cases h3 : clsF (col x 1) = 3
   ·rw [if_pos h3]
    have e : (col x 1 == 4 || col x 1 == 5) = true := by
     rcases (cls3 _).1 h3 with h | h <;> rw [h] <;> rfl
    rw [if_pos e, xxP t (col x 1 == 5) h2]
    have e2 : (!(col x 1 == 5)) = (col x 1 == 4) := by
     rcases (cls3 _).1 h3 with h | h <;> rw [h] <;> rfl
    rw [e2]
   ·rw [if_neg h3]
    have e : (col x 1 == 4 || col x 1 == 5) = false := by
     rw [bne fun h => h3 ((cls3 _).2 (.inl h)), bne fun h => h3 ((cls3 _).2 (.inr h))]; rfl
    rw [e, if_neg (by decide), xxP t b h2]
theorem xBJ {o : Int} {l : List (List Int)} (h : valF o l = true) (t : Int) : offR t l = !onF t true l := by
 rw [xxP t true (xph h).2, Bool.not_not]
 rfl
theorem xuK {l : List (List Int)} (h : valF 0 l = true) : ∀ x ∈ l, col x 1 = 1 := by
 intro x hx
 have h3 := ((xph h).1 x hx).2.2
 unfold ownF clsF at h3
 by_cases h1 : col x 1 = 1
 ·exact h1
 ·rw [if_neg h1] at h3
  exfalso
  by_cases h2 : col x 1 = 2 ∨ col x 1 = 3
  ·rw [if_pos h2] at h3; cases h3
  ·rw [if_neg h2] at h3
   by_cases h4 : col x 1 = 4 ∨ col x 1 = 5
   ·rw [if_pos h4] at h3; cases h3
   ·rw [if_neg h4] at h3; cases h3
theorem xxf {l : List (List Int)} {p q : List Int → Bool} (h : ∀ x ∈ l, p x = q x) : l.any p = l.any q := by
 induction l with
 | nil => rfl
 | cons x r ih => rw [List.any_cons, List.any_cons, h x List.mem_cons_self, ih fun y hy => h y (List.mem_cons_of_mem _ hy)]
end Go.Proofs.YtikhnofbbcmpeaaGreat
set_option linter.unusedVariables false
namespace Go.Koen
section
variable {ε α β : Type} [DecidableEq α] [DecidableEq β] (l : ε → α) (r : ε → Option β)
def Cov (A : α → Bool) (B : β → Bool) (e : ε) : Prop := A (l e) = true ∨ ∃ b, r e = some b ∧ B b = true
def xDu (e f : ε) : Prop := l e ≠ l f ∧ ∀ b, r e = some b → r f ≠ some b
def size (UA : List α) (UB : List β) (A : α → Bool) (B : β → Bool) : Nat := UA.countP A + UB.countP B
theorem xma {γ : Type} {p q : γ → Bool} (h : ∀ x, p x = true → q x = true) : ∀ l : List γ, l.countP p ≤ l.countP q
 | [] => Nat.le_refl _
 | x :: t => by
  have := xma h t
  rw [List.countP_cons, List.countP_cons]
  have h1 := h x
  cases hp : p x <;> cases hq : q x <;> simp_all <;> omega
theorem xn8 {γ : Type} [DecidableEq γ] {p : γ → Bool} {v : γ} : ∀ {l : List γ}, v ∈ l → p v = true → l.countP (fun x => p x && decide (x ≠ v)) + 1 ≤ l.countP p
 | [], h, _ => by cases h
 | x :: t, h, hp => by
  rw [List.countP_cons, List.countP_cons]
  by_cases e : x = v
  ·subst e
   have := xma (p := fun y => p y && decide (y ≠ x)) (q := p) (fun y hy => by simp_all) t
   simp only [hp]
   simp
   simpa using this
  ·have hm : v ∈ t := by
    rcases List.mem_cons.1 h with h | h
    ·exact absurd h.symm e
    ·exact h
   have := xn8 hm hp
   cases hx : p x <;> simp_all <;> omega
variable {l r}
theorem weak {UA : List α} {UB : List β} : ∀ {M : List ε} {A : α → Bool} {B : β → Bool}, M.Pairwise (xDu l r) → (∀ e ∈ M, Cov l r A B e) → (∀ e ∈ M, l e ∈ UA ∧ ∀ b, r e = some b → b ∈ UB) → M.length ≤ size UA UB A B
 | [], _, _, _, _, _ => Nat.zero_le _
 | e :: M, A, B, hM, hC, hU => by
  obtain ⟨h1, h2⟩ := List.pairwise_cons.1 hM
  have hU' : ∀ e ∈ M, l e ∈ UA ∧ ∀ b, r e = some b → b ∈ UB := fun f hf => hU f (List.mem_cons_of_mem _ hf)
  rcases hC e List.mem_cons_self with hA | ⟨b, hb, hB⟩
  ·have := weak (A := fun x => A x && decide (x ≠ l e)) (B := B) h2 (fun f hf => by
    rcases hC f (List.mem_cons_of_mem _ hf) with h | h
    ·exact .inl (by simp [h, Ne.symm (h1 f hf).1])
    ·exact .inr h) hU'
   have hd := xn8 (p := A) (hU e List.mem_cons_self).1 hA
   simp only [List.length_cons]
   unfold size at *
   omega
  ·have := weak (A := A) (B := fun x => B x && decide (x ≠ b)) h2 (fun f hf => by
    rcases hC f (List.mem_cons_of_mem _ hf) with h | ⟨b', hb', hB'⟩
    ·exact .inl h
    ·refine .inr ⟨b', hb', ?_⟩
     have : b' ≠ b := fun e' => (h1 f hf).2 b hb (by rw [hb', e'])
     simp [hB', this]) hU'
   have hd := xn8 (p := B) ((hU e List.mem_cons_self).2 b hb) hB
   simp only [List.length_cons]
   unfold size at *
   omega
end
end Go.Koen
set_option linter.unusedVariables false
set_option maxRecDepth 100000
namespace Go.Proofs.YtikhnofbbcmpeaaGreat
open Go Go.Sy Go.Koen
theorem xfQ {α : Type} [DecidableEq α] : ∀ {l l' : List α}, l.Nodup → (∀ x ∈ l, x ∈ l') → l.length ≤ l'.length
 | [], _, _, _ => Nat.zero_le _
 | x :: r, l', hn, hs => by
  obtain ⟨h1, h2⟩ := List.nodup_cons.1 hn
  have hx := hs x List.mem_cons_self
  have := xfQ (l := r) (l' := l'.erase x) h2 fun y hy => (List.mem_erase_of_ne (fun e : y = x => h1 (by rw [← e]; exact hy))).2 (hs y (List.mem_cons_of_mem _ hy))
  rw [List.length_erase_of_mem hx] at this
  have : 0 < l'.length := List.length_pos_of_mem hx
  simp only [List.length_cons]
  omega
theorem xtF {α : Type} [DecidableEq α] {l l' : List α} (h : l.Nodup) (h' : l'.Nodup) (hm : ∀ x, x ∈ l ↔ x ∈ l') : l.length = l'.length :=
 Nat.le_antisymm (xfQ h fun x hx => (hm x).1 hx) (xfQ h' fun x hx => (hm x).2 hx)
theorem xtE {α : Type} [DecidableEq α] {l l' : List α} (h : l.Nodup) {y : α} (hy : y ∈ l') (hy' : y ∉ l) (hs : ∀ x ∈ l, x ∈ l') : l.length < l'.length := by
 have := xfQ (l := y :: l) (List.nodup_cons.2 ⟨hy', h⟩) (l' := l') fun x hx => by
  rcases List.mem_cons.1 hx with rfl | hx
  ·exact hy
  ·exact hs x hx
 rw [List.length_cons] at this
 omega
theorem xnh (m : Nat) (list : List (List Int)) : (byF m list).Nodup := by
 refine List.nodup_iff_pairwise_ne.2 ((xs3 m list).1.imp fun {a b} h e => ?_)
 subst e
 have := xeN [0, 1, 2] a a
 rw [h] at this
 simp at this
theorem xy5 (m : Nat) (list : List (List Int)) (x : List Int) : x ∈ xim m list ↔ (∃ k, k < 9 ∧ m.testBit k = true ∧ x = rOn k) ∨ ∃ g ∈ list, cov m g = false ∧ x = lft g := by
 unfold xim
 rw [List.mem_append, List.mem_map, List.mem_map]
 constructor
 ·rintro (⟨k, hk, rfl⟩ | ⟨g, hg, rfl⟩)
  ·obtain ⟨h1, h2⟩ := List.mem_filter.1 hk
   exact .inl ⟨k, List.mem_range.1 h1, h2, rfl⟩
  ·obtain ⟨h1, h2⟩ := List.mem_filter.1 hg
   exact .inr ⟨g, h1, by simpa using h2, rfl⟩
 ·rintro (⟨k, h1, h2, rfl⟩ | ⟨g, h1, h2, rfl⟩)
  ·exact .inl ⟨k, List.mem_filter.2 ⟨List.mem_range.2 h1, h2⟩, rfl⟩
  ·exact .inr ⟨g, List.mem_filter.2 ⟨h1, by rw [h2]; rfl⟩, rfl⟩
theorem xjA (m : Nat) (list : List (List Int)) (x : List Int) : x ∈ byF m list ↔ (∃ k, k < 9 ∧ m.testBit k = true ∧ x = rOn k) ∨ ∃ g ∈ list, cov m g = false ∧ x = lft g := by
 rw [(xs3 m list).2, xy5]
theorem xAh (g : List Int) (k : Nat) : lft g ≠ rOn k := by
 unfold lft rOn
 split <;> simp
theorem xwc (list : List (List Int)) : ∀ n, (∃ m, (m = 0 ∨ m < n) ∧ upto (xd7 list) n (byF 0 list) = byF m list) ∧ ∀ m, m < n → subB m (allF list) = true → xe9 (byF m list) (upto (xd7 list) n (byF 0 list)) = false
 | 0 => ⟨⟨0, .inl rfl, rfl⟩, fun m h => by omega⟩
 | n + 1 => by
  obtain ⟨⟨m, hm, he⟩, h2⟩ := xwc list n
  have e : upto (xd7 list) (n + 1) (byF 0 list) = xd7 list n (upto (xd7 list) n (byF 0 list)) := rfl
  rw [e]
  generalize upto (xd7 list) n (byF 0 list) = b at *
  unfold xd7
  by_cases hs : subB n (allF list) = true
  ·rw [if_pos hs]
   by_cases hb : xe9 (byF n list) b = true
   ·rw [if_pos hb]
    refine ⟨⟨n, .inr (by omega), rfl⟩, fun m' hm' hs' => ?_⟩
    by_cases e' : m' = n
    ·rw [e']; exact xxd _
    ·cases hbb : xe9 (byF m' list) (byF n list) with
     | false => rfl
     | true =>
      have := xoL hbb hb
      rw [h2 m' (by omega) hs'] at this
      cases this
   ·rw [if_neg hb]
    refine ⟨⟨m, hm.imp id fun h => by omega, he⟩, fun m' hm' hs' => ?_⟩
    by_cases e' : m' = n
    ·rw [e']; simpa using hb
    ·exact h2 m' (by omega) hs'
  ·rw [if_neg hs]
   refine ⟨⟨m, hm.imp id fun h => by omega, he⟩, fun m' hm' hs' => ?_⟩
   by_cases e' : m' = n
   ·rw [e'] at hs'; exact absurd hs' hs
   ·exact h2 m' (by omega) hs'
theorem xxn {m a : Nat} (hm : m < 512) (h : subB m a = true) : m ≤ a := by
 have e : m &&& a = m := by
  apply Nat.eq_of_testBit_eq
  intro i
  rw [Nat.testBit_and]
  by_cases h9 : i < 9
  ·have := List.all_eq_true.1 h i (List.mem_range.2 h9)
   cases h1 : m.testBit i <;> cases h2 : a.testBit i <;> simp_all
  ·rw [xrj hm (by omega)]; rfl
 rw [← e]
 exact Nat.and_le_right
theorem xqm {list : List (List Int)} (hs : xeD list) : (∃ m, m < 512 ∧ fewF list = byF m list) ∧ ∀ m, m < 512 → xe9 (byF m list) (fewF list) = false := by
 obtain ⟨hall, hbit⟩ := xwn hs
 obtain ⟨⟨m0, hm0, he⟩, hmin⟩ := xwc list (allF list + 1)
 have he : fewF list = byF m0 list := he
 have hmin : ∀ m, m < allF list + 1 → subB m (allF list) = true → xe9 (byF m list) (fewF list) = false := hmin
 refine ⟨⟨m0, by omega, he⟩, fun m hm => ?_⟩
 by_cases hsub : subB m (allF list) = true
 ·exact hmin m (by have := xxn hm hsub; omega) hsub
 ·have hlt : m &&& allF list < 512 := Nat.and_lt_two_pow (n := 9) _ hall
  have hsub' : subB (m &&& allF list) (allF list) = true := List.all_eq_true.2 fun k _ => by
   rw [Nat.testBit_and]
   cases m.testBit k <;> cases (allF list).testBit k <;> rfl
  have h1 := hmin (m &&& allF list) (by have := xxn hlt hsub'; omega) hsub'
  obtain ⟨k, hk, hk'⟩ : ∃ k, k < 9 ∧ (!m.testBit k || (allF list).testBit k) = false := by
   refine Classical.byContradiction fun hn => hsub (List.all_eq_true.2 fun k hk => ?_)
   cases h : (!m.testBit k || (allF list).testBit k) with
   | true => rfl
   | false => exact absurd ⟨k, List.mem_range.1 hk, h⟩ hn
  have hk1 : m.testBit k = true ∧ (allF list).testBit k = false := by
   cases h1 : m.testBit k <;> cases h2 : (allF list).testBit k <;> simp_all
  have hcov : ∀ g ∈ list, cov (m &&& allF list) g = cov m g := fun g hg => by
   unfold cov
   cases h3 : (col g 3 != 0) with
   | false => rfl
   | true =>
    have : (allF list).testBit (col g 0).toNat = true := by
     rw [hbit, List.any_eq_true]
     exact ⟨g, hg, by rw [h3]; simp⟩
    rw [Nat.testBit_and, this, Bool.and_true]
  have hlen : (byF (m &&& allF list) list).length < (byF m list).length := by
   refine xtE (xnh _ _) (y := rOn k) ((xjA _ _ _).2 (.inl ⟨k, hk, hk1.1, rfl⟩)) (fun h => ?_) fun x hx => ?_
   ·rcases (xjA _ _ _).1 h with ⟨k', _, hb, e⟩ | ⟨g, _, _, e⟩
    ·have : k = k' := by
      have e1 : ((k : Nat) : Int) = (k' : Int) := by
       unfold rOn at e
       simpa using e
      omega
     subst this
     rw [Nat.testBit_and, hk1.2, Bool.and_false] at hb
     cases hb
    ·exact xAh g k e.symm
   ·rcases (xjA _ _ _).1 hx with ⟨k', h1, hb, e⟩ | ⟨g, h1, h2, e⟩
    ·rw [Nat.testBit_and, Bool.and_eq_true] at hb
     exact (xjA _ _ _).2 (.inl ⟨k', h1, hb.1, e⟩)
    ·exact (xjA _ _ _).2 (.inr ⟨g, h1, by rw [← hcov g h1]; exact h2, e⟩)
  cases hb : xe9 (byF m list) (fewF list) with
  | false => rfl
  | true =>
   have : xe9 (byF (m &&& allF list) list) (byF m list) = true := by unfold xe9; rw [decide_eq_true hlen]; rfl
   have := xoL this hb
   rw [h1] at this
   cases this
theorem xBm {list : List (List Int)} (hs : xeD list) {m : Nat} (hm : m < 512) : (fewF list).length ≤ (byF m list).length := by
 have := (xqm hs).2 m hm
 unfold xe9 at this
 simp only [Bool.or_eq_false_iff, decide_eq_false_iff_not] at this
 omega
def rt (g : List Int) : Option Int := if col g 3 = 0 then none else some (col g 0)
def uB : List Int := [0, 1, 2, 3, 4, 5, 6, 7, 8]
theorem xBz (k : Int) : k ∈ uB ↔ 0 ≤ k ∧ k ≤ 8 := by
 unfold uB
 simp only [List.mem_cons, List.not_mem_nil, or_false]
 omega
theorem xzd : uB.Nodup := by decide
theorem xz4 (list : List (List Int)) (x : List Int) : x ∈ byF 0 list ↔ ∃ g ∈ list, x = lft g := by
 rw [xjA]
 constructor
 ·rintro (⟨k, _, h, _⟩ | ⟨g, h, _, e⟩)
  ·simp at h
  ·exact ⟨g, h, e⟩
 ·rintro ⟨g, h, e⟩
  exact .inr ⟨g, h, by unfold cov; simp, e⟩
def aOf (m : Nat) (list : List (List Int)) (x : List Int) : Bool := decide (∃ g ∈ list, cov m g = false ∧ x = lft g)
def bOf (m : Nat) (k : Int) : Bool := m.testBit k.toNat
theorem xAK (m : Nat) (list : List (List Int)) : size (byF 0 list) uB (aOf m list) (bOf m) = (byF m list).length := by
 have hr : (((List.range 9).filter m.testBit).map rOn).Nodup := by
  rw [List.nodup_iff_pairwise_ne, List.pairwise_map]
  refine ((List.nodup_iff_pairwise_ne.1 List.nodup_range).filter m.testBit).imp fun {a b} h e => h ?_
  have e1 : ((a : Nat) : Int) = (b : Int) := by
   unfold rOn at e
   simpa using e
  omega
 have h1 : (byF m list).length = ((byF 0 list).filter (aOf m list) ++ ((List.range 9).filter m.testBit).map rOn).length := by
  refine xtF (xnh m list) (List.nodup_append.2 ⟨(xnh 0 list).filter _, hr, fun a ha b hb e => ?_⟩) fun x => ?_
  ·obtain ⟨g, _, e1⟩ := (xz4 _ _).1 (List.mem_filter.1 ha).1
   obtain ⟨k, _, e2⟩ := List.mem_map.1 hb
   exact xAh g k (by rw [← e1, e, e2])
  ·rw [xjA, List.mem_append, List.mem_filter, List.mem_map]
   constructor
   ·rintro (⟨k, h1, h2, h3⟩ | ⟨g, h1, h2, h3⟩)
    ·exact .inr ⟨k, List.mem_filter.2 ⟨List.mem_range.2 h1, h2⟩, h3.symm⟩
    ·exact .inl ⟨(xz4 _ _).2 ⟨g, h1, h3⟩, decide_eq_true ⟨g, h1, h2, h3⟩⟩
   ·rintro (⟨_, h⟩ | ⟨k, h1, h2⟩)
    ·obtain ⟨g, h1, h2, h3⟩ := of_decide_eq_true h
     exact .inr ⟨g, h1, h2, h3⟩
    ·obtain ⟨h3, h4⟩ := List.mem_filter.1 h1
     exact .inl ⟨k, List.mem_range.1 h3, h4, h2.symm⟩
 have h2 : uB.countP (bOf m) = ((List.range 9).filter m.testBit).length := by
  have e : uB = (List.range 9).map (fun k : Nat => (k : Int)) := by decide
  rw [e, List.countP_map, ← List.countP_eq_length_filter]
  exact List.countP_congr fun (k : Nat) _ => by show m.testBit (k : Int).toNat = true ↔ _; rw [Int.toNat_natCast]
 unfold size
 rw [h1, h2, List.length_append, List.length_map, List.countP_eq_length_filter]
def mask : List Bool → Nat
 | [] => 0
 | b :: r => b.toNat + 2 * mask r
theorem xvV : ∀ (l : List Bool) (k : Nat), (mask l).testBit k = l.getD k false
 | [], k => by simp [mask]
 | b :: r, 0 => by
  unfold mask
  cases b <;> simp [Nat.testBit_zero]
 | b :: r, k + 1 => by
  have ih := xvV r k
  unfold mask
  rw [Nat.testBit_succ]
  have : (b.toNat + 2 * mask r) / 2 = mask r := by cases b <;> simp <;> omega
  rw [this, ih]; rfl
theorem xx3 : ∀ (l : List Bool), mask l < 2 ^ l.length
 | [] => by simp [mask]
 | b :: r => by
  have := xx3 r
  unfold mask
  rw [List.length_cons, Nat.pow_succ]
  cases b <;> simp <;> omega
theorem xzQ {list : List (List Int)} (hs : xeD list) {A : List Int → Bool} {B : Int → Bool} (hc : ∀ e ∈ list, Cov lft rt A B e) : (fewF list).length ≤ size (byF 0 list) uB A B := by
 let m := mask ((List.range 9).map fun k : Nat => B (k : Int))
 have hm : m < 512 := by
  have := xx3 ((List.range 9).map fun k : Nat => B (k : Int))
  simpa using this
 have hbit : ∀ k, k < 9 → m.testBit k = B (k : Int) := fun k hk => by
  show (mask _).testBit k = _
  rw [xvV, List.getD_eq_getElem?_getD, List.getElem?_map, List.getElem?_range hk]
  rfl
 refine Nat.le_trans (xBm hs hm) ?_
 rw [← xAK m list]
 have h1 : (byF 0 list).countP (aOf m list) ≤ (byF 0 list).countP A := by
  refine xma (fun x hx => ?_) _
  obtain ⟨g, hg, hcv, rfl⟩ := of_decide_eq_true hx
  rcases hc g hg with h | ⟨b, hb, hB⟩
  ·exact h
  ·exfalso
   unfold rt at hb
   split at hb
   ·cases hb
   ·rename_i h3
    cases hb
    have hsh := hs g hg
    unfold cov at hcv
    rw [hbit _ (by omega), Int.toNat_of_nonneg hsh.1, hB] at hcv
    simp at hcv
    exact h3 hcv
 have h2 : uB.countP (bOf m) ≤ uB.countP B := by
  have : ∀ l : List Int, (∀ k ∈ l, 0 ≤ k ∧ k ≤ 8) → l.countP (bOf m) ≤ l.countP B := fun l hl => by
   refine Nat.le_of_eq (List.countP_congr fun k hk => ?_)
   have := hl k hk
   unfold bOf
   rw [hbit _ (by omega), Int.toNat_of_nonneg this.1]
  exact this uB fun k hk => (xBz k).1 hk
 unfold size
 omega
end Go.Proofs.YtikhnofbbcmpeaaGreat
set_option linter.unusedVariables false
set_option maxRecDepth 100000
namespace Go.Proofs.YtikhnofbbcmpeaaGreat
open Go Go.Sy Go.Koen
def xwq (gs : List (List Int)) : Prop := gs.Pairwise fun a b => ltK (kOf a) (kOf b)
theorem xx5 {a b : Key} (h : ltK a b) : a ≠ b := fun e => by subst e; unfold ltK at h; omega
theorem xBV (g h : List Int) : (col g 0 == col h 0 && (col g 1 == col h 1 && true)) = decide (kOf g = kOf h) := by
 by_cases e : kOf g = kOf h
 ·obtain ⟨h1, h2⟩ := Prod.mk.inj e
  rw [decide_eq_true e, h1, h2]; simp
 ·rw [decide_eq_false e]
  cases hb : (col g 0 == col h 0 && (col g 1 == col h 1 && true)) with
  | false => rfl
  | true =>
   simp only [Bool.and_eq_true, beq_iff_eq] at hb
   exact absurd (Prod.ext hb.1 hb.2.1) e
def imA (gs : List (List Int)) (o : List Int) : Option (List Int) := if col o 0 = 1 then some [1, 0, col o 2] else if col o 0 = 3 then (gs.find? fun g => decide (kOf g = (col o 1, col o 2))).map lft else none
def imB (o : List Int) : Option Int := if col o 0 = 2 then some (col o 1) else none
theorem xAm (gs : List (List Int)) : ∀ om : List (List Int), (om.filterMap (imA gs)).length + (om.filterMap imB).length ≤ om.length
 | [] => Nat.le_refl _
 | o :: r => by
  have ih := xAm gs r
  rw [List.filterMap_cons, List.filterMap_cons, List.length_cons]
  unfold imA imB
  by_cases h1 : col o 0 = 1
  ·rw [if_pos h1, if_neg (by omega)]
   simp only [List.length_cons]
   unfold imA imB at ih
   omega
  ·rw [if_neg h1]
   by_cases h2 : col o 0 = 2
   ·rw [if_neg (by omega), if_pos h2]
    simp only [List.length_cons]
    unfold imA imB at ih
    omega
   ·rw [if_neg h2]
    unfold imA imB at ih
    by_cases h3 : col o 0 = 3
    ·rw [if_pos h3]
     cases (gs.find? fun g => decide (kOf g = (col o 1, col o 2))).map lft with
     | none => show (List.filterMap _ r).length + (List.filterMap _ r).length ≤ _; omega
     | some z => show (z :: List.filterMap _ r).length + (List.filterMap _ r).length ≤ _; rw [List.length_cons]; omega
    ·rw [if_neg h3]
     show (List.filterMap _ r).length + (List.filterMap _ r).length ≤ _
     omega
theorem xwe {α : Type} [DecidableEq α] {U L : List α} {p : α → Bool} (h : U.Nodup) (hp : ∀ x, p x = true → x ∈ L) : U.countP p ≤ L.length := by
 rw [List.countP_eq_length_filter]
 exact xfQ (h.filter _) fun x hx => hp x (List.mem_filter.1 hx).2
theorem xBp {gs om : List (List Int)} (hs : xeD gs) (hu : xwq gs) (h : ∀ g ∈ gs, ∃ o ∈ om, canF g o = true) : (fewF gs).length ≤ om.length := by
 have hc : ∀ e ∈ gs, Cov lft rt (fun x => decide (x ∈ om.filterMap (imA gs))) (fun b => decide (b ∈ om.filterMap imB)) e := by
  intro g hg
  obtain ⟨o, ho, hcan⟩ := h g hg
  unfold canF at hcan
  cases h1 : (col o 0 == 1 && (col o 1 == 0 && (col o 2 == col g 1 && true))) with
  | true =>
   rw [h1, cond_true] at hcan
   simp only [Bool.and_eq_true, beq_iff_eq] at h1
   refine .inl (decide_eq_true (List.mem_filterMap.2 ⟨o, ho, ?_⟩))
   unfold imA lft
   rw [if_pos h1.1, if_neg (by simpa using hcan), h1.2.2.1]
  | false =>
   rw [h1, cond_false] at hcan
   cases h2 : (col o 0 == 2 && (col o 1 == col g 0 && (col o 2 == 0 && true))) with
   | true =>
    rw [h2, cond_true] at hcan
    simp only [Bool.and_eq_true, beq_iff_eq] at h2
    refine .inr ⟨col g 0, ?_, decide_eq_true (List.mem_filterMap.2 ⟨o, ho, ?_⟩)⟩
    ·unfold rt
     rw [if_neg (by simpa using hcan)]
    ·unfold imB
     rw [if_pos h2.1, h2.2.1]
   | false =>
    rw [h2, cond_false] at hcan
    simp only [Bool.and_eq_true, beq_iff_eq] at hcan
    refine .inl (decide_eq_true (List.mem_filterMap.2 ⟨o, ho, ?_⟩))
    unfold imA
    rw [if_neg (by omega), if_pos hcan.1]
    have hkey : kOf g = (col o 1, col o 2) := Prod.ext hcan.2.1.symm hcan.2.2.1.symm
    cases hf : gs.find? fun g => decide (kOf g = (col o 1, col o 2)) with
    | none =>
     have := List.find?_eq_none.1 hf g hg
     exact absurd (decide_eq_true hkey) this
    | some g' =>
     have hk' : kOf g' = (col o 1, col o 2) := of_decide_eq_true (List.find?_some (p := fun g => decide (kOf g = (col o 1, col o 2))) hf)
     have hm := List.mem_of_find?_eq_some hf
     have : g' = g := by
      obtain ⟨i, hi⟩ := List.mem_iff_getElem?.1 hm
      obtain ⟨j, hj⟩ := List.mem_iff_getElem?.1 hg
      obtain ⟨hi1, hi2⟩ := List.getElem?_eq_some_iff.1 hi
      obtain ⟨hj1, hj2⟩ := List.getElem?_eq_some_iff.1 hj
      have hp := List.pairwise_iff_getElem.1 hu
      rcases Nat.lt_trichotomy i j with hlt | hlt | hlt
      ·have := xx5 (hp i j hi1 hj1 hlt)
       rw [hi2, hj2, hk', hkey] at this
       exact absurd rfl this
      ·subst hlt; rw [← hi2, ← hj2]
      ·have := xx5 (hp j i hj1 hi1 hlt)
       rw [hi2, hj2, hk', hkey] at this
       exact absurd rfl this
     rw [this]; rfl
 have h0 := xzQ hs hc
 unfold size at h0
 have h1 := xwe (U := byF 0 gs) (L := om.filterMap (imA gs)) (p := fun x => decide (x ∈ om.filterMap (imA gs))) (xnh 0 gs) fun x hx => of_decide_eq_true hx
 have h2 := xwe (U := uB) (L := om.filterMap imB) (p := fun b => decide (b ∈ om.filterMap imB)) xzd fun x hx => of_decide_eq_true hx
 have h3 := xAm gs om
 exact Nat.le_trans h0 (Nat.le_trans (Nat.add_le_add h1 h2) h3)
theorem xzN {gs : List (List Int)} (hs : xeD gs) : ∀ g ∈ gs, ∃ o ∈ fewF gs, canF g o = true := by
 intro g hg
 obtain ⟨m, hm, he⟩ := (xqm hs).1
 rw [he]
 have hsh := hs g hg
 cases hc : cov m g with
 | true =>
  unfold cov at hc
  rw [Bool.and_eq_true] at hc
  refine ⟨rOn (col g 0).toNat, (xjA _ _ _).2 (.inl ⟨_, by omega, hc.2, rfl⟩), ?_⟩
  unfold canF
  have e : col (rOn (col g 0).toNat) 1 = col g 0 := Int.toNat_of_nonneg hsh.1
  rw [e]
  show (bif (2 == (1 : Int)) && _ then _ else bif (2 : Int) == 2 && (col g 0 == col g 0 && ((0 : Int) == 0 && true)) then col g 3 != 0 else _) = true
  simp only [beq_self_eq_true, Bool.and_self, cond_true]
  exact hc.1
 | false =>
  refine ⟨lft g, (xjA _ _ _).2 (.inr ⟨g, hg, hc, rfl⟩), ?_⟩
  unfold canF lft
  by_cases h2 : col g 2 = 0
  ·rw [if_pos h2]
   show (bif (3 == (1 : Int)) && _ then _ else bif (3 : Int) == 2 && _ then _ else (3 : Int) == 3 && (col g 0 == col g 0 && (col g 1 == col g 1 && true))) = true
   simp
  ·rw [if_neg h2]
   show (bif (1 : Int) == 1 && ((0 : Int) == 0 && (col g 1 == col g 1 && true)) then col g 2 != 0 else _) = true
   simpa using h2
theorem xtx {α : Type} {R : α → α → Prop} {l : List α} (h : l.Pairwise R) {i : Nat} (hi : i + 1 < l.length) : R l[i] l[i + 1] := List.pairwise_iff_getElem.1 h i (i + 1) (by omega) hi (by omega)
theorem xBf (office : List (List Int)) (logs : List ALog) (tm dl : Int) (list : List (List Int)) : xwq (xdR office logs tm dl list) := by
 obtain ⟨ks, h1, _, h3⟩ := xnY office logs tm dl list
 rw [h3]
 unfold xwq
 rw [List.pairwise_map]
 exact h1
end Go.Proofs.YtikhnofbbcmpeaaGreat
set_option linter.unusedVariables false
set_option maxRecDepth 100000
namespace Go.Proofs.YtikhnofbbcmpeaaGreat
open Go Go.Sy
theorem xwP {step : List U → Option (Nat × List U)} {l : List (List Int)} {p : List Int → Bool} (b : Bool) (m : Nat) (hs : ∀ i (hi : i < l.length), step [.b b, .i i] = bif p l[i] then some (1, []) else some (0, [.b b, .i ((i + 1 : Nat) : Int)]))
  (he : step [.b b, .i l.length] = some (m + 2, [.b b, .i l.length])) {init : List U} (hi : init = [.b b, .i ((0 : Nat) : Int)]) :
  xaz step init ∧ (bif (xan step init).fst.beq 1 then true else false) = l.any p := by
 subst hi
 obtain ⟨h1, h2⟩ := xd1 (step := step) l.length (fun i => p (l.getD i [])) (fun i => [.b b, .i i]) (fun i => []) 0 (m + 1) [.b b, .i l.length]
  (fun i hi => by rw [hs i hi, xbe hi]) he
 refine ⟨h1, ?_⟩
 rcases h2 with ⟨i, hi, hp, _, hg⟩ | ⟨hn, hg⟩
 ·rw [hg]
  have : l.any p = true := List.any_eq_true.2 ⟨l[i], List.getElem_mem hi, by rw [← xbe hi]; exact hp⟩
  rw [this]; rfl
 ·rw [hg]
  have : l.any p = false := List.any_eq_false.2 fun x hx => by
   obtain ⟨i, hi, rfl⟩ := List.getElem_of_mem hx
   have := hn i hi
   simp only [xbe hi] at this
   simp [this]
  rw [this]; rfl
theorem xy8 (x y : List Int) : xdB (col x 0) (col x 1) (col x 2) (col y 0) (col y 1) (col y 2) = decide (cmp3 x y < 0) := by
 unfold xdB cmp3
 generalize col x 0 = a
 generalize col x 1 = b
 generalize col x 2 = c
 generalize col y 0 = d
 generalize col y 1 = e
 generalize col y 2 = f
 rcases Int.lt_trichotomy a d with h | h | h
 ·rw [if_pos h, bne_iff_ne.2 (by omega), cond_true, decide_eq_true h]; rfl
 ·subst h
  rw [if_neg (Int.lt_irrefl _), if_neg (Int.lt_irrefl _), bne_self_eq_false', cond_false]
  rcases Int.lt_trichotomy b e with h | h | h
  ·rw [if_pos h, bne_iff_ne.2 (by omega), cond_true, decide_eq_true h]; rfl
  ·subst h
   rw [if_neg (Int.lt_irrefl _), if_neg (Int.lt_irrefl _), bne_self_eq_false', cond_false]
   rcases Int.lt_trichotomy c f with h | h | h
   ·rw [if_pos h, decide_eq_true h]; rfl
   ·subst h
    rw [if_neg (Int.lt_irrefl _), if_neg (Int.lt_irrefl _), decide_eq_false (Int.lt_irrefl _)]; rfl
   ·rw [if_neg (by omega), if_pos h, decide_eq_false (by omega)]; rfl
  ·rw [if_neg (by omega), if_pos h, bne_iff_ne.2 (by omega), cond_true, decide_eq_false (by omega)]; rfl
 ·rw [if_neg (by omega), if_pos h, bne_iff_ne.2 (by omega), cond_true, decide_eq_false (by omega)]; rfl
theorem xCf (g o : List Int) : xgk (col g 0) (col g 1) (col g 2 != 0) (col g 3 != 0) (col o 0) (col o 1) (col o 2) = canF g o := by
 unfold xgk canF
 generalize col o 0 = a
 generalize col o 1 = b
 generalize col o 2 = c
 generalize (col g 2 != 0) = s
 generalize (col g 3 != 0) = n
 by_cases h1 : a = 1
 ·subst h1
  cases s <;> cases hb : (b == 0) <;> cases hc : (c == col g 1) <;> rfl
 ·by_cases h2 : a = 2
  ·subst h2
   cases n <;> cases hb : (b == col g 0) <;> cases hc : (c == 0) <;> rfl
  ·rw [bne h1, bne h2]
   cases (a == 3) <;> cases (b == col g 0) <;> cases (c == col g 1) <;> rfl
def expF (gs om : List (List Int)) : Bool := xjd cmp3 om && !(gs.any fun g => !om.any (canF g))
theorem xmg (gs om : List (List Int)) (hg : gs.length ≤ 9223372036854775807) (ho : om.length ≤ 9223372036854775807) : xcP gs om ∧ xdr gs om = expF gs om := by
 have A := xpN (step := xbk gs om) (l := om) (cf := cmp3) 1 (fun i hi => by
   have hw : IntKind.i64.wrap (((i + 1 : Nat) : Int) - 1) = ((i : Nat) : Int) := by rw [xe6 (by omega)]; omega
   unfold xbk
   simp only [gi_1, gi_z, gb_z, hw]
   rw [decide_eq_true (by omega), cond_true, xaa (xay (by omega)), xaa (xay (by omega)), xaa (xay hi), xaa (xay hi), xaS hi, xaS (show i < om.length by omega), xdh (by omega)]
   rw [show ∀ x y : List Int, xdB (x.getD 0 0) (x.getD 1 0) (x.getD 2 0) (y.getD 0 0) (y.getD 1 0) (y.getD 2 0) = decide (cmp3 x y < 0) from xy8]
   have : (!decide (cmp3 om[i] om[i + 1] < 0)) = decide (cmp3 om[i] om[i + 1] ≥ 0) := by
    by_cases h : cmp3 om[i] om[i + 1] < 0
    ·rw [decide_eq_true h, decide_eq_false (by omega)]; rfl
    ·rw [decide_eq_false h, decide_eq_true (by omega)]; rfl
   rw [this])
  (fun n hn => by
   unfold xbk
   simp only [gi_1, gi_z, gb_z]
   rw [decide_eq_false hn, cond_false]) (init := xcn gs om) rfl
 have B : ∀ b : Bool, xaz (xa0 gs om) [.b b, .i ((0 : Nat) : Int)] ∧ (bif (xan (xa0 gs om) [.b b, .i ((0 : Nat) : Int)]).fst.beq 1 then true else false) = gs.any fun g => !om.any (canF g) := fun b =>
  xwP (step := xa0 gs om) (l := gs) (p := fun g => !om.any (canF g)) b 1 (fun i hi => by
   have C := xAZ (step := xcm gs om [.b b, .i i]) (l := om) (p := canF gs[i]) 1 (fun j c hj => by
     unfold xcm
     simp only [gi_1, gi_z, gb_z]
     rw [dlt hj, xaa (fun _ => xay hi), xaa (fun _ => xay hi), xaa (fun _ => xay hj), xaa (fun _ => xay hj), xaS hi, xaS hj, xdh (by omega)]
     rw [show ∀ x y : List Int, xgk (x.getD 0 0) (x.getD 1 0) (x.getD 2 0 != 0) (x.getD 3 0 != 0) (y.getD 0 0) (y.getD 1 0) (y.getD 2 0) = canF x y from xCf])
    (fun c => by unfold xcm; simp only [gi_1, gi_z, gb_z, dnlt]) (init := xen gs om [.b b, .i i]) rfl
   have C2 : gb (xiA gs om [.b b, .i i]).snd 0 = om.any (canF gs[i]) := C.2
   unfold xa0
   rw [C2]
   simp only [gi_1, gi_z, gb_z]
   rw [dlt hi, xaa C.1, xdh (by omega)])
  (by unfold xa0; simp only [gi_1, gi_z, gb_z, dnlt]) rfl
 have B' := B (gb (xdb gs om).snd 0)
 refine ⟨⟨A.1, fun _ => B'.1⟩, ?_⟩
 unfold xdr expF
 rw [← A.2, ← B'.2]
 show (bif (xan (xbk gs om) (xcn gs om)).fst.beq 1 then false else bif (xan (xa0 gs om) [.b (gb (xdb gs om).snd 0), .i ((0 : Nat) : Int)]).fst.beq 1 then false else true) = _
 cases (xan (xbk gs om) (xcn gs om)).fst.beq 1 <;> cases (xan (xa0 gs om) [.b (gb (xdb gs om).snd 0), .i ((0 : Nat) : Int)]).fst.beq 1 <;> rfl
end Go.Proofs.YtikhnofbbcmpeaaGreat
set_option linter.unusedVariables false
namespace Go.Proofs.YtikhnofbbcmpeaaGreat
open Go Go.Sy
theorem xzr {W : World} {own : Bool} {e : TypeId} {sz : Nat} {v : Value} {m : Nat} {vs : List Value} (h : xaZ W own e sz v m vs) : m ≤ 9223372036854775807 := by
 obtain ⟨a, c, _, h1, h2⟩ := h.reads.is
 unfold maxLen at h2
 omega
theorem xz5 {W : World} {own : Bool} {e : TypeId} {sz : Nat} {v : Value} {m : Nat} {vs : List Value} (h : xaZ W own e sz v m vs) : v.oneCell' = true := by
 obtain ⟨a, c, rfl, _⟩ := h.reads.is
 rfl
theorem xBI {W : World} {e : TypeId} {ks : List CK} {v : Value} {l : List (List Int)} (r : xaZ W false e ks.length v l.length (rowV ks l)) (k : Nat) : v.oneCell' = true ∧ xa6 (.row e ks l) = true ∧ ∀ (E : Env), E k = v → xa3 E W k false (.row e ks l) :=
 ⟨xz5 r, rfl, fun E he => by
  show xaZ W false e ks.length (E k) l.length (rowV ks l)
  rw [he]; exact r⟩
theorem xDc {W : World} {e : TypeId} {ks : List NK} {v : Value} {l : List (List Int)} {vs : List Value} (r : xga W false e ks v l vs) (k : Nat) : v.oneCell' = true ∧ xa6 (.nst e ks l) = true ∧ ∀ (E : Env), E k = v → xa3 E W k false (.nst e ks l) :=
 ⟨xz5 r.row, rfl, fun E he => by
  show ∃ vs, xga W false e ks (E k) l vs
  rw [he]; exact ⟨vs, r⟩⟩
theorem xBS {W : World} {e e' : TypeId} {k0 : NK} {ks : List CK} {v : Value} {l : List (List Int)} {vs : List Value} (r : xga W false e [k0, .s e' ks] v l vs) : ∀ x ∈ l, (decL (x.getD 1 0)).length ≤ 9223372036854775807 := by
 intro x hx
 obtain ⟨i, hi, rfl⟩ := List.getElem_of_mem hx
 obtain ⟨u, _, hu⟩ := r.cell i 1 _ hi rfl
 have e1 : l.getD i [] = l[i] := by rw [List.getD_eq_getElem?_getD, List.getElem?_eq_getElem hi]; rfl
 rw [e1] at hu
 exact xzr hu.2
end Go.Proofs.YtikhnofbbcmpeaaGreat
set_option linter.unusedVariables false
set_option maxRecDepth 100000
namespace Go.Proofs.YtikhnofbbcmpeaaGreat
open Go Go.Sy
def xpx (n : Int) (l : List Int) : List Int := l.filter (fun x => decide (x < n)) ++ n :: l.filter (fun x => decide (n < x))
theorem xwt {l : List Int} (h : l.Pairwise (· < ·)) (n : Int) : (xpx n l).Pairwise (· < ·) := by
 unfold xpx
 rw [List.pairwise_append]
 refine ⟨h.filter _, List.pairwise_cons.2 ⟨fun x hx => by simpa using (List.mem_filter.1 hx).2, h.filter _⟩, fun a ha b hb => ?_⟩
 have h1 : a < n := by simpa using (List.mem_filter.1 ha).2
 rcases List.mem_cons.1 hb with rfl | hb
 ·exact h1
 ·have h2 : n < b := by simpa using (List.mem_filter.1 hb).2
  omega
theorem xxl (n : Int) (l : List Int) (x : Int) : x ∈ xpx n l ↔ x = n ∨ x ∈ l := by
 unfold xpx
 simp only [List.mem_append, List.mem_cons, List.mem_filter, decide_eq_true_eq]
 constructor
 ·rintro (⟨h, _⟩ | h | ⟨h, _⟩)
  ·exact .inr h
  ·exact .inl h
  ·exact .inr h
 ·rintro (h | h)
  ·exact .inr (.inl h)
  ·rcases Int.lt_trichotomy x n with h' | h' | h'
   ·exact .inl ⟨h, h'⟩
   ·exact .inr (.inl h')
   ·exact .inr (.inr ⟨h, h'⟩)
theorem xs7 (n : Int) (l : List Int) : (xpx n l).length ≤ l.length + 1 := by
 have : (l.filter (fun x => decide (x < n))).length + (l.filter (fun x => decide (n < x))).length ≤ l.length := by
  induction l with
  | nil => simp
  | cons x r ih =>
   rw [List.filter_cons, List.filter_cons]
   rcases Int.lt_trichotomy x n with h | h | h
   ·rw [if_pos (decide_eq_true h), if_neg (by simp; omega)]; simp only [List.length_cons]; omega
   ·rw [if_neg (by simp; omega), if_neg (by simp; omega)]; simp only [List.length_cons]; omega
   ·rw [if_neg (by simp; omega), if_pos (decide_eq_true h)]; simp only [List.length_cons]; omega
 unfold xpx
 rw [List.length_append, List.length_cons]
 omega
theorem xsL (p : Int → Bool) (l : List Int) : ((xaG l).filter fun x => p (col x 0)).map (fun x => [col x 0]) = xaG (l.filter p) := by
 induction l with
 | nil => rfl
 | cons x r ih =>
  show (([x] :: xaG r).filter fun x => p (col x 0)).map (fun x => [col x 0]) = _
  rw [List.filter_cons, List.filter_cons]
  have : p (col [x] 0) = p x := rfl
  rw [this]
  cases p x
  ·rw [if_neg (by decide), if_neg (by decide)]; exact ih
  ·rw [if_pos rfl, if_pos rfl, List.map_cons, ih]; rfl
theorem xBt (n : Int) (l : List Int) (hl : l.length ≤ 1000000) : xee n (xaG l) ∧ xfv n (xaG l) = xaG (xpx n l) := by
 have hlen : (xaG l).length = l.length := by unfold xaG; rw [List.length_map]
 have fit : ∀ (s : List (List Int)) (x : Int), s.length ≤ 2000000 → xbf 8 (s.length + [[x]].length) := fun s x h => by unfold xbf maxLen; simp only [List.length_cons, List.length_nil]; omega
 have L : ∀ (p : Int → Bool) (step : List U → Option (Nat × List U)) (s0 : List (List Int)), s0.length ≤ 1000001 →
   (∀ i s (hi : i < (xaG l).length), s.length ≤ 2000000 → step [.i i, .r s] = bif p (col (xaG l)[i] 0) then some (0, [.i ((i + 1 : Nat) : Int), .r (s ++ [[col (xaG l)[i] 0]])]) else some (0, [.i ((i + 1 : Nat) : Int), .r s])) →
   (∀ s, step [.i (xaG l).length, .r s] = some (3, [.i (xaG l).length, .r s])) →
   xaz step [.i ((0 : Nat) : Int), .r s0] ∧ xan step [.i ((0 : Nat) : Int), .r s0] = (3, [.i (xaG l).length, .r (s0 ++ xaG (l.filter p))]) := fun p step s0 h0 h1 h2 => by
  obtain ⟨k1, k2⟩ := xb2 (step := step) (xaG l) (fun i (s : List (List Int)) => [.i i, .r s]) (fun s x => .inl (if (fun x => p (col x 0)) x = true then s ++ [[col x 0]] else s)) (fun i s => s.length ≤ s0.length + i) (fun s => (2, [.i (xaG l).length, .r s])) 0
   (fun i s hi _ hI => ⟨by
    rw [h1 i s hi (by omega)]
    cases hp : p (col (xaG l)[i] 0)
    ·simp only [hp]; rfl
    ·simp only [hp]; rfl, fun s' hs' => by
    cases hs'
    exact Nat.le_trans (xrA _ _ _) (by omega)⟩)
   (fun i s hi _ => by
    have : i = (xaG l).length := by omega
    subst this
    exact h2 s) (s := s0) (Nat.le_refl _)
  refine ⟨k1, ?_⟩
  rw [k2, List.drop_zero, xdY, xgJ, xsL]
  rfl
 obtain ⟨a1, a2⟩ := L (fun x => decide (x < n)) (xcO n (xaG l)) [] (by simp) (fun i s hi hs => by
  unfold xcO
  simp only [gi_z, gr_1, gr_z]
  rw [dlt hi, xaa (xay hi), xaa (xay hi), xaa (xay hi), xaa (xay hi), xaa (fit _ _ hs), xaS hi, xdh (by omega)]) (fun s => by
  unfold xcO
  simp only [gi_z, gr_1, gr_z, dnlt])
 have hf : ∀ p : Int → Bool, (xaG (l.filter p)).length ≤ l.length := fun p => by unfold xaG; rw [List.length_map]; exact List.length_filter_le _ _
 have e1 : gr (xjg n (xaG l)).snd 1 = xaG (l.filter fun x => decide (x < n)) := by
  show gr (xan (xcO n (xaG l)) [.i ((0 : Nat) : Int), .r []]).snd 1 = _
  rw [a2]; rfl
 obtain ⟨b1, b2⟩ := L (fun x => decide (n < x)) (xdt n (xaG l)) (xaG (l.filter fun x => decide (x < n)) ++ [[n]]) (by
  have := hf fun x => decide (x < n)
  rw [List.length_append, List.length_cons, List.length_nil]; omega) (fun i s hi hs => by
  unfold xdt
  simp only [gi_z, gr_1, gr_z]
  rw [dlt hi, xaa (xay hi), xaa (xay hi), xaa (xay hi), xaa (xay hi), xaa (fit _ _ hs), xaS hi, xdh (by omega)]) (fun s => by
  unfold xdt
  simp only [gi_z, gr_1, gr_z, dnlt])
 have e2 : xeE n (xaG l) = [.i ((0 : Nat) : Int), .r (xaG (l.filter fun x => decide (x < n)) ++ [[n]])] := by
  unfold xeE; rw [e1]; rfl
 unfold xee xfv xmr
 rw [e1, e2]
 refine ⟨⟨a1, fit _ _ (by have := hf fun x => decide (x < n); omega), b1⟩, ?_⟩
 rw [b2]
 show xaG (l.filter fun x => decide (x < n)) ++ [[n]] ++ xaG (l.filter fun x => decide (n < x)) = _
 unfold xpx xaG
 rw [List.map_append, List.map_cons, List.append_assoc]; rfl
def cntR (t dl : Int) (x : ALog) (c : List Int) : Bool := col c 0 == x.1 && decide (IntKind.i64.wrap (col c 2 + dl) ≤ t) && !hasR 3 (col c 1) 0 t x.2
def xhv (t dl : Int) (x : ALog) (s : List Int) (chances : List (List Int)) : List Int := chances.foldl (fun s c => if cntR t dl x c = true then xpx (col c 1) s else s) s
theorem xgp (t dl : Int) (x : ALog) : ∀ (chances : List (List Int)) (s : List Int), s.Pairwise (· < ·) → (xhv t dl x s chances).Pairwise (· < ·) ∧ (∀ y, y ∈ xhv t dl x s chances ↔ y ∈ s ∨ ∃ c ∈ chances, cntR t dl x c = true ∧ col c 1 = y) ∧ (xhv t dl x s chances).length ≤ s.length + chances.length
 | [], s, h => ⟨h, fun y => by simp [xhv], Nat.le_refl _⟩
 | c :: r, s, h => by
  have e : xhv t dl x s (c :: r) = xhv t dl x (if cntR t dl x c = true then xpx (col c 1) s else s) r := rfl
  rw [e]
  by_cases hc : cntR t dl x c = true
  ·rw [if_pos hc]
   obtain ⟨h1, h2, h3⟩ := xgp t dl x r _ (xwt h (col c 1))
   refine ⟨h1, fun y => ?_, ?_⟩
   ·rw [h2, xxl]
    constructor
    ·rintro ((h | h) | ⟨d, hd, h⟩)
     ·exact .inr ⟨c, List.mem_cons_self, hc, h.symm⟩
     ·exact .inl h
     ·exact .inr ⟨d, List.mem_cons_of_mem _ hd, h⟩
    ·rintro (h | ⟨d, hd, h⟩)
     ·exact .inl (.inr h)
     ·rcases List.mem_cons.1 hd with rfl | hd
      ·exact .inl (.inl h.2.symm)
      ·exact .inr ⟨d, hd, h⟩
   ·have := xs7 (col c 1) s
    rw [List.length_cons]; omega
  ·rw [if_neg hc]
   obtain ⟨h1, h2, h3⟩ := xgp t dl x r s h
   refine ⟨h1, fun y => ?_, ?_⟩
   ·rw [h2]
    constructor
    ·rintro (h | ⟨d, hd, h⟩)
     ·exact .inl h
     ·exact .inr ⟨d, List.mem_cons_of_mem _ hd, h⟩
    ·rintro (h | ⟨d, hd, h⟩)
     ·exact .inl h
     ·rcases List.mem_cons.1 hd with rfl | hd
      ·exact absurd h.1 hc
      ·exact .inr ⟨d, hd, h⟩
   ·rw [List.length_cons]; omega
def xuF (t dl : Int) (chances : List (List Int)) (x : ALog) : List (List Int) := (xhv t dl x [] chances).map fun i => [x.1, i]
def xqW (t dl : Int) (chances : List (List Int)) (logs : List ALog) : List (List Int) := logs.flatMap (xuF t dl chances)
theorem xtj (t dl : Int) (chances : List (List Int)) (x : ALog) : (xuF t dl chances x).length ≤ chances.length := by
 unfold xuF
 rw [List.length_map]
 have := (xgp t dl x chances [] List.Pairwise.nil).2.2
 simpa using this
theorem xrE {α β : Type} (g : α → List β) : ∀ (l : List α) (s : List β), l.foldl (fun s x => s ++ g x) s = s ++ l.flatMap g
 | [], s => by simp
 | x :: r, s => by rw [List.foldl_cons, xrE g r, List.flatMap_cons, List.append_assoc]
theorem xzs {t dl : Int} {ships chances : List (List Int)} (hs : ships.length ≤ 1000) (hc : chances.length ≤ 1000) (hd : xqP ships) : xfg t dl ships chances ∧ xaB t dl ships chances = xqW t dl chances (xax ships) := by
 have L1 : ∀ k (out : List (List Int)) (hk : k < ships.length), xaz (xb0 t dl ships chances [.i k, .r out]) (xfI t dl ships chances [.i k, .r out]) ∧ gr (xfJ t dl ships chances [.i k, .r out]).snd 1 = xaG (xhv t dl (xia ships[k]) [] chances) := fun k out hk => by
  obtain ⟨h1, h2⟩ := xb2 (step := xb0 t dl ships chances [.i k, .r out]) chances (fun i (s : List Int) => [.i i, .r (xaG s)]) (fun s c => .inl (if cntR t dl (xia ships[k]) c = true then xpx (col c 1) s else s)) (fun i s => s.length ≤ i) (fun s => (2, [.i chances.length, .r (xaG s)])) 0
   (fun i s hi _ hI => by
    have hh := xAC (col ships[k] 0) 3 (col chances[i] 1) 0 t (decL (col ships[k] 1)) (hd _ (List.getElem_mem hk))
    have hw := xBt (col chances[i] 1) s (by omega)
    refine ⟨?_, fun s' hs' => ?_⟩
    ·have e : (chances[i].getD 0 0 == ships[k].getD 0 0 && decide (IntKind.i64.wrap (chances[i].getD 2 0 + dl) ≤ t) && !xeH (ships[k].getD 0 0) 3 (chances[i].getD 1 0) 0 t (decL (ships[k].getD 1 0))) = cntR t dl (xia ships[k]) chances[i] := by
      rw [show xeH (ships[k].getD 0 0) 3 (chances[i].getD 1 0) 0 t (decL (ships[k].getD 1 0)) = _ from hh.2]; rfl
     unfold xb0
     simp only [gi_z, gr_1, gr_z]
     rw [dlt hi, xaa (xay hi), xaa (xay hi), xaa (xay hk), xaa (xay hk), xaS hi, xaS hk, xaa hh.1, xaa (xay hk), xaa (xay hk), xaa (xay hk), e, xdh (by omega)]
     cases cntR t dl (xia ships[k]) chances[i] with
     | false => rw [if_neg (by decide)]; rfl
     | true =>
      rw [if_pos rfl, cond_true, xaa hw.1, show xfv (chances[i].getD 1 0) (xaG s) = _ from hw.2]; rfl
    ·cases hs'
     have := xs7 (col chances[i] 1) s
     split <;> omega)
   (fun i s hi _ => by
    have : i = chances.length := by omega
    subst this
    unfold xb0
    simp only [gi_z, gr_1, gr_z, dnlt]) (s := []) (Nat.zero_le _)
  refine ⟨h1, ?_⟩
  show gr (xan (xb0 t dl ships chances [.i k, .r out]) [.i ((0 : Nat) : Int), .r (xaG [])]).snd 1 = _
  rw [h2, List.drop_zero, xdY]
  rfl
 obtain ⟨h1, h2⟩ := xb2 (step := xcN t dl ships chances) ships (fun k (out : List (List Int)) => [.i k, .r out]) (fun out x => .inl (out ++ xuF t dl chances (xia x))) (fun k out => out.length ≤ 1000 * k) (fun out => (1, [.i ships.length, .r out])) 0
  (fun k out hk _ hI => by
   obtain ⟨a1, a2⟩ := L1 k out hk
   have hin : (xhv t dl (xia ships[k]) [] chances).length ≤ chances.length := by
    have := (xgp t dl (xia ships[k]) chances [] List.Pairwise.nil).2.2
    simpa using this
   have hlen : (xaG (xhv t dl (xia ships[k]) [] chances)).length ≤ 1000 := by unfold xaG; rw [List.length_map]; omega
   obtain ⟨b1, b2⟩ := xb2 (step := xbZ t dl ships chances [.i k, .r out]) (xaG (xhv t dl (xia ships[k]) [] chances)) (fun i (s : List (List Int)) => [.i i, .r s]) (fun s x => .inl (s ++ [[col ships[k] 0, col x 0]])) (fun i s => s.length ≤ out.length + i) (fun s => (1, [.i (xaG (xhv t dl (xia ships[k]) [] chances)).length, .r s])) 0
    (fun i s hi _ hI' => by
     have hfit : ∀ x : List Int, xbf 16 (s.length + [x].length) := fun x => by unfold xbf maxLen; simp only [List.length_cons, List.length_nil]; omega
     refine ⟨?_, fun s' hs' => ?_⟩
     ·unfold xbZ xjf
      rw [a2]
      simp only [gi_z, gr_1, gr_z]
      rw [dlt hi, xaa (xay hk), xaa (xay hk), xaa (xay hk), xaa (xay hi), xaa (xay hi), xaa (hfit _), xaS hi, xaS hk, xdh (by omega)]
      rfl
     ·cases hs'
      rw [List.length_append, List.length_cons, List.length_nil]; omega)
    (fun i s hi _ => by
     have : i = (xaG (xhv t dl (xia ships[k]) [] chances)).length := by omega
     subst this
     unfold xbZ
     rw [a2]
     simp only [gi_z, gr_1, gr_z, dnlt]) (s := out) (Nat.le_refl _)
   have e2 : gr (xmq t dl ships chances [.i k, .r out]).snd 1 = out ++ xuF t dl chances (xia ships[k]) := by
    show gr (xan (xbZ t dl ships chances [.i k, .r out]) [.i ((0 : Nat) : Int), .r out]).snd 1 = _
    rw [b2, List.drop_zero, xdY]
    have : ∀ (l : List Int) (s : List (List Int)), (xaG l).foldl (fun s x => s ++ [[col ships[k] 0, col x 0]]) s = s ++ l.map fun i => [col ships[k] 0, i] := by
     intro l
     induction l with
     | nil => intro s; simp [xaG]
     | cons y r ih =>
      intro s
      show (xaG r).foldl _ (s ++ [[col ships[k] 0, y]]) = _
      rw [ih, List.map_cons, List.append_assoc]; rfl
    rw [this]; rfl
   refine ⟨?_, fun s' hs' => ?_⟩
   ·unfold xcN
    simp only [gi_z, gr_1, gr_z]
    rw [dlt hk, xaa a1, xaa (show xaz (xbZ t dl ships chances [.i k, .r out]) (xfH t dl ships chances [.i k, .r out]) from b1), e2, xdh (by omega)]
    rfl
   ·cases hs'
    have := xtj t dl chances (xia ships[k])
    rw [List.length_append]; omega)
  (fun i s hi _ => by
   have : i = ships.length := by omega
   subst this
   unfold xcN
   simp only [gi_z, gr_1, gr_z, dnlt]) (s := []) (Nat.zero_le _)
 refine ⟨h1, ?_⟩
 show gr (xan (xcN t dl ships chances) [.i ((0 : Nat) : Int), .r []]).snd 1 = _
 rw [h2, List.drop_zero, xdY, xrE]
 show ([] ++ ships.flatMap fun x => xuF t dl chances (xia x)) = _
 unfold xqW xax
 rw [List.flatMap_map, List.nil_append]
theorem xpI (t : Int) : ∀ {l : List (List Int)}, l.Pairwise (fun a b => col a 0 ≤ col b 0) → ∀ n, n ∈ xka t l ↔ ∃ x ∈ l, col x 0 ≤ t ∧ col x 1 = 3 ∧ col x 2 = n
 | [], _, n => ⟨fun h => (by cases h), fun ⟨x, hx, _⟩ => (by cases hx)⟩
 | x :: r, h, n => by
  obtain ⟨h1, h2⟩ := List.pairwise_cons.1 h
  unfold xka
  by_cases ht : col x 0 > t
  ·rw [if_pos ht]
   refine ⟨fun h => (by cases h), fun ⟨y, hy, h3, _⟩ => ?_⟩
   rcases List.mem_cons.1 hy with rfl | hy
   ·omega
   ·have := h1 y hy; omega
  ·rw [if_neg ht]
   by_cases h3 : col x 1 = 3
   ·rw [if_pos h3, List.mem_cons, xpI t h2]
    constructor
    ·rintro (hh | ⟨y, hy, hh⟩)
     ·exact ⟨x, List.mem_cons_self, by omega, h3, hh.symm⟩
     ·exact ⟨y, List.mem_cons_of_mem _ hy, hh⟩
    ·rintro ⟨y, hy, hh⟩
     rcases List.mem_cons.1 hy with e | hy
     ·rw [e] at hh; exact .inl hh.2.2.symm
     ·exact .inr ⟨y, hy, hh⟩
   ·rw [if_neg h3, xpI t h2]
    constructor
    ·rintro ⟨y, hy, hh⟩
     exact ⟨y, List.mem_cons_of_mem _ hy, hh⟩
    ·rintro ⟨y, hy, hh⟩
     rcases List.mem_cons.1 hy with e | hy
     ·rw [e] at hh; exact absurd hh.2.1 h3
     ·exact ⟨y, hy, hh⟩
theorem xym {o : Int} {l : List (List Int)} (h : valF o l = true) (n t : Int) : hasR 3 n 0 t l = (xpH t l).contains n := by
 have hv := xph h
 rw [Bool.eq_iff_iff, List.contains_iff_mem]
 unfold xpH
 rw [xxO, xpI t hv.2]
 unfold hasR
 rw [List.any_eq_true]
 constructor
 ·rintro ⟨x, hx, h⟩
  simp only [Bool.and_eq_true, beq_iff_eq, decide_eq_true_eq] at h
  exact ⟨x, hx, h.2, h.1.1.1, h.1.1.2⟩
 ·rintro ⟨x, hx, h1, h2, h3⟩
  refine ⟨x, hx, ?_⟩
  simp only [Bool.and_eq_true, beq_iff_eq, decide_eq_true_eq]
  exact ⟨⟨⟨h2, h3⟩, (hv.1 x hx).1⟩, h1⟩
theorem xzi {l : List (List Int)} (h : valF 0 l = true) (n : Int) : hasR 1 n 0 10000000 l = xuC n (-1) l := by
 refine xxf fun x hx => ?_
 obtain ⟨h1, h2, _⟩ := (xph h).1 x hx
 have hk := xuK h x hx
 rw [hk] at h2
 have h3 : col x 0 ≤ 10000000 := by
  unfold lnF at h2
  rw [if_neg (by decide), if_neg (by decide)] at h2
  unfold tmF at h2
  simp only [Bool.and_eq_true, decide_eq_true_eq] at h2
  exact h2.1.2
 rw [hk, decide_eq_true h1, decide_eq_true h3]
 show (true && col x 2 == n && true && true) = (col x 2 == n && (true || col x 0 == -1))
 simp
theorem xyL {logs : List ALog} {b : Int} (h : risF b logs = true) {x : ALog} (hx : x ∈ logs) : xdS x.1 logs = some x := by
 induction logs generalizing b with
 | nil => cases hx
 | cons y r ih =>
  unfold xdS
  rw [List.find?_cons]
  rcases List.mem_cons.1 hx with rfl | hx'
  ·rw [show (x.1 == x.1) = true from beq_self_eq_true _]
  ·have hr : risF y.1 r = true := by
    unfold risF at h
    simp only [Bool.and_eq_true] at h
    exact h.2
   have := (xlP hr x hx').2
   rw [show (y.1 == x.1) = false from bne (by omega)]
   exact ih hr hx'
theorem xAv {logs : List ALog} {t dl : Int} {c : List Int} (hris : risF 0 logs = true) {x : ALog} (hx : x ∈ logs) (he : col c 0 = x.1) (hw : IntKind.i64.wrap (col c 2 + dl) = col c 2 + dl) : cntR t dl x c = cntF logs t dl c := by
 unfold cntR cntF xr4
 have hf : xdS (col c 0) logs = some x := by rw [he]; exact xyL hris hx
 have hs : xj8 logs c = x.2 := by unfold xj8; rw [hf]; rfl
 rw [hs, he, beq_self_eq_true, hw, xym (xlP hris x hx).1, Bool.not_or, Bool.true_and]
 have : decide (col c 2 + dl ≤ t) = !decide (col c 2 + dl > t) := by
  by_cases h : col c 2 + dl > t
  ·rw [decide_eq_true h, decide_eq_false (by omega)]; rfl
  ·rw [decide_eq_false h, decide_eq_true (by omega)]; rfl
 rw [this]
def xq3 (t dl : Int) (chances : List (List Int)) (logs : List ALog) : List Key := logs.flatMap fun x => (xhv t dl x [] chances).map fun i => (x.1, i)
theorem xv1 (t dl : Int) (chances : List (List Int)) : ∀ (logs : List ALog) (b : Int), risF b logs = true → (xq3 t dl chances logs).Pairwise ltK ∧ ∀ k ∈ xq3 t dl chances logs, b < k.1
 | [], b, _ => ⟨List.Pairwise.nil, fun k hk => (by cases hk)⟩
 | x :: r, b, h => by
  have hr : risF x.1 r = true := by
   unfold risF at h
   simp only [Bool.and_eq_true] at h
   exact h.2
  have hb := (xlP h x List.mem_cons_self).2
  obtain ⟨h1, h2⟩ := xv1 t dl chances r x.1 hr
  have e : xq3 t dl chances (x :: r) = (xhv t dl x [] chances).map (fun i => (x.1, i)) ++ xq3 t dl chances r := by unfold xq3; rw [List.flatMap_cons]
  rw [e]
  refine ⟨List.pairwise_append.2 ⟨?_, h1, fun a ha c hc => ?_⟩, fun k hk => ?_⟩
  ·rw [List.pairwise_map]
   exact (xgp t dl x chances [] List.Pairwise.nil).1.imp fun h => Or.inr ⟨rfl, h⟩
  ·obtain ⟨i, hi, rfl⟩ := List.mem_map.1 ha
   exact Or.inl (h2 c hc)
  ·rcases List.mem_append.1 hk with hk | hk
   ·obtain ⟨i, hi, rfl⟩ := List.mem_map.1 hk
    exact hb
   ·have := h2 k hk
    omega
theorem xAX (a : Key) : ¬ ltK a a := fun h => xx5 h rfl
theorem xzA (a b : Key) (h : ltK a b) : ¬ ltK b a := fun k => by unfold ltK at h k; omega
theorem xzD {t dl : Int} {chances : List (List Int)} {logs : List ALog} (hris : risF 0 logs = true) (hf : ∀ c ∈ chances, ∃ x, xdS (col c 0) logs = some x) (hw : ∀ c ∈ chances, IntKind.i64.wrap (col c 2 + dl) = col c 2 + dl)
  {ks : List Key} (h1 : ks.Pairwise ltK) (h2 : ∀ k, k ∈ ks ↔ ∃ c ∈ chances, cntF logs t dl c = true ∧ kOf c = k) : xq3 t dl chances logs = ks := by
 refine xtr xAX xzA (xv1 t dl chances logs 0 hris).1 h1 fun k => ?_
 rw [h2]
 unfold xq3
 rw [List.mem_flatMap]
 constructor
 ·rintro ⟨x, hx, hk⟩
  obtain ⟨i, hi, rfl⟩ := List.mem_map.1 hk
  rcases ((xgp t dl x chances [] List.Pairwise.nil).2.1 i).1 hi with h | ⟨c, hc, h3, h4⟩
  ·cases h
  ·have he : col c 0 = x.1 := by
    unfold cntR at h3
    simp only [Bool.and_eq_true, beq_iff_eq] at h3
    exact h3.1.1
   exact ⟨c, hc, by rw [← xAv hris hx he (hw c hc)]; exact h3, by unfold kOf; rw [he, h4]⟩
 ·rintro ⟨c, hc, h3, rfl⟩
  obtain ⟨x, hx⟩ := hf c hc
  have he : x.1 = col c 0 := by simpa using List.find?_some hx
  have hm := List.mem_of_find?_eq_some hx
  refine ⟨x, hm, List.mem_map.2 ⟨col c 1, ((xgp t dl x chances [] List.Pairwise.nil).2.1 _).2 (.inr ⟨c, hc, by rw [xAv hris hm he.symm (hw c hc)]; exact h3, rfl⟩), by unfold kOf; rw [he]⟩⟩
theorem xtk (t dl : Int) (chances : List (List Int)) (logs : List ALog) : xqW t dl chances logs = (xq3 t dl chances logs).map fun k => [k.1, k.2] := by
 unfold xqW xq3
 rw [List.map_flatMap]
 congr 1
 funext x
 unfold xuF
 rw [List.map_map]; rfl
def rOnB (t dl : Int) (l : List (List Int)) (k : Key) (c : List Int) : Bool := !(col c 0 != k.1 || col c 1 != k.2 || decide (IntKind.i64.wrap (col c 2 + dl) > t)) && (!offR (col c 2) l && decide ((l.length : Int) > 0) && decide (xnK 0 (-1) l ≥ col c 2))
theorem xyc {l : List (List Int)} (h : (l.length : Int) > 0) : IntKind.i64.wrap ((l.length : Int) - 1) = ((l.length - 1 : Nat) : Int) ∨ l.length > 9223372036854775807 := by
 by_cases h' : l.length > 9223372036854775807
 ·exact .inr h'
 ·left
  rw [xe6 (by omega)]; omega
theorem xDi {so t dl : Int} {l chances : List (List Int)} (k : Key) (hl : l.length ≤ 9223372036854775807) (hc : chances.length ≤ 9223372036854775807) : xfw so t dl k.1 k.2 l chances ∧ xix so t dl k.1 k.2 l chances = !chances.any (rOnB t dl l k) := by
 obtain ⟨h1, h2⟩ := xd1 (step := xdq so t dl k.1 k.2 l chances) chances.length (fun i => rOnB t dl l k (chances.getD i [])) (fun i => [.b false, .i i]) (fun i => []) 1 3 [.b false, .i chances.length]
  (fun i hi => by
   have ho := xCp so (col chances[i] 2) l hl
   have hin : ∀ b : Bool, (b && decide ((l.length : Int) > 0)) = true → inR (IntKind.i64.wrap ((l.length : Int) - 1)) l := fun b h => by
    rw [Bool.and_eq_true, decide_eq_true_eq] at h
    rcases xyc h.2 with h' | h'
    ·rw [h']; exact xay (by omega)
    ·omega
   have hlast : (l.length : Int) > 0 → (l.getD (IntKind.i64.wrap ((l.length : Int) - 1)).toNat []).getD 0 0 = xnK 0 (-1) l := fun h => by
    rcases xyc h with h' | h'
    ·rw [h', xaS (by omega)]
     unfold xnK
     rw [List.getLast?_eq_getElem?, List.getElem?_eq_getElem (by omega)]
    ·omega
   rw [xbe hi]
   unfold xdq
   simp only [gi_1, gi_z, gb_z]
   rw [dlt hi, xaa (xay hi), xaa (xay hi), xaS hi, xdh (by omega)]
   unfold rOnB
   generalize hx : (col chances[i] 0 != k.1 || col chances[i] 1 != k.2 || decide (IntKind.i64.wrap (col chances[i] 2 + dl) > t)) = x
   cases x with
   | true => rfl
   | false =>
    rw [xaa ho.1, xaa (hin _), xaa (hin _), xaa (hin _), show xdZ so (chances[i].getD 2 0) l = _ from ho.2]
    by_cases h0 : (l.length : Int) > 0
    ·rw [hlast h0]; rfl
    ·rw [decide_eq_false h0, Bool.and_false, Bool.false_and, Bool.false_and]; rfl)
  (by unfold xdq; simp only [gi_1, gi_z, gb_z, dnlt])
 refine ⟨h1, ?_⟩
 show (bif (xan (xdq so t dl k.1 k.2 l chances) [.b false, .i ((0 : Nat) : Int)]).fst.beq 2 then false else true) = _
 rcases h2 with ⟨i, hi, hp, _, hg⟩ | ⟨hn, hg⟩
 ·rw [hg]
  have : chances.any (rOnB t dl l k) = true := List.any_eq_true.2 ⟨chances[i], List.getElem_mem hi, by rw [← xbe hi]; exact hp⟩
  rw [this]; rfl
 ·rw [hg]
  have : chances.any (rOnB t dl l k) = false := List.any_eq_false.2 fun x hx => by
   obtain ⟨i, hi, rfl⟩ := List.getElem_of_mem hx
   have := hn i hi
   simp only [xbe hi] at this
   simp [this]
  rw [this]; rfl
def mkR (office : List (List Int)) (t dl : Int) (chances : List (List Int)) (logs : List ALog) (k : Key) : List Int :=
 [k.1, k.2, b2 (!hasR 1 k.2 0 10000000 office), b2 (!chances.any (rOnB t dl (((xdS k.1 logs).getD (0, [])).2) k))]
theorem xBQ {office : List (List Int)} {t dl : Int} {chances : List (List Int)} {logs : List ALog} (ho : valF 0 office = true) (hris : risF 0 logs = true) (hch : chF chances = true) (hf : ∀ c ∈ chances, ∃ x, xdS (col c 0) logs = some x) (hw : ∀ c ∈ chances, IntKind.i64.wrap (col c 2 + dl) = col c 2 + dl)
  {k : Key} (hk : ∃ c ∈ chances, cntF logs t dl c = true ∧ kOf c = k) : mkR office t dl chances logs k = mkG office logs t dl chances k := by
 obtain ⟨c0, hc0, hcnt0, rfl⟩ := hk
 obtain ⟨x, hx⟩ := hf c0 hc0
 have hxm := List.mem_of_find?_eq_some hx
 have hval := (xlP hris x hxm).1
 have hk1 : (kOf c0).1 = col c0 0 := rfl
 unfold mkR mkG
 rw [xzi ho, hk1, hx]
 have key : chances.any (rOnB t dl ((some x).getD (0, [])).2 (kOf c0)) = !(chances.all fun c => !(cntF logs t dl c && decide (kOf c = kOf c0)) || offF logs c) := by
  rw [Bool.eq_iff_iff, List.any_eq_true, Bool.not_eq_true', List.all_eq_false]
  have each : ∀ c ∈ chances, (rOnB t dl x.2 (kOf c0) c = true ↔ ¬ ((!(cntF logs t dl c && decide (kOf c = kOf c0)) || offF logs c) = true)) := fun c hc => by
   obtain ⟨q1, q2, q3, q4, q5, q6⟩ := (xne hch).2 c hc
   by_cases hkc : kOf c = kOf c0
   ·have e0 : col c 0 = col c0 0 := congrArg Prod.fst hkc
    have e1 : col c 1 = col c0 1 := congrArg Prod.snd hkc
    have hs : xj8 logs c = x.2 := by unfold xj8; rw [e0, hx]; rfl
    have hs0 : xj8 logs c0 = x.2 := by unfold xj8; rw [hx]; rfl
    have hcnt : cntF logs t dl c = decide (col c 2 + dl ≤ t) := by
     unfold cntF xr4 at hcnt0 ⊢
     rw [hs0, Bool.not_or, Bool.and_eq_true] at hcnt0
     rw [hs, e1, Bool.not_or, hcnt0.2, Bool.and_true]
     by_cases h : col c 2 + dl > t
     ·rw [decide_eq_true h, decide_eq_false (by omega)]; rfl
     ·rw [decide_eq_false h, decide_eq_true (by omega)]; rfl
    have hoff : (!offR (col c 2) x.2 && decide ((x.2.length : Int) > 0) && decide (xnK 0 (-1) x.2 ≥ col c 2)) = !offF logs c := by
     unfold offF
     rw [hs, xBJ hval, Bool.not_not, Bool.not_or, Bool.not_not]
     by_cases h0 : x.2 = []
     ·rw [h0]
      have : xnK 0 (-1) ([] : List (List Int)) = -1 := rfl
      rw [this, decide_eq_true (show (-1 : Int) < col c 2 by omega)]
      simp
     ·have : 0 < x.2.length := List.length_pos_iff.2 h0
      rw [decide_eq_true (show (x.2.length : Int) > 0 by omega), Bool.and_true, Bool.and_comm]
      congr 1
      by_cases h : xnK 0 (-1) x.2 < col c 2
      ·rw [decide_eq_true h, decide_eq_false (by omega)]; rfl
      ·rw [decide_eq_false h, decide_eq_true (by omega)]; rfl
    unfold rOnB
    rw [hoff, hcnt, decide_eq_true hkc, Bool.and_true, hw c hc]
    have a0 : (col c 0 != (kOf c0).1) = false := by rw [show (kOf c0).1 = col c0 0 from rfl, e0]; simp
    have a1 : (col c 1 != (kOf c0).2) = false := by rw [show (kOf c0).2 = col c0 1 from rfl, e1]; simp
    rw [a0, a1, Bool.false_or, Bool.false_or]
    have : decide (col c 2 + dl ≤ t) = !decide (col c 2 + dl > t) := by
     by_cases h : col c 2 + dl > t
     ·rw [decide_eq_true h, decide_eq_false (by omega)]; rfl
     ·rw [decide_eq_false h, decide_eq_true (by omega)]; rfl
    rw [this]
    cases decide (col c 2 + dl > t) <;> cases offF logs c <;> simp
   ·have a : (col c 0 != (kOf c0).1 || col c 1 != (kOf c0).2) = true := by
     rw [Bool.or_eq_true, bne_iff_ne, bne_iff_ne]
     by_cases e : col c 0 = (kOf c0).1
     ·right; intro e1; exact hkc (Prod.ext e e1)
     ·exact .inl e
    unfold rOnB
    rw [a, decide_eq_false hkc, Bool.and_false]
    simp
  constructor
  ·rintro ⟨c, hc, h⟩
   exact ⟨c, hc, (each c hc).1 h⟩
  ·rintro ⟨c, hc, h⟩
   exact ⟨c, hc, (each c hc).2 h⟩
 rw [key, Bool.not_not]
theorem xwG {office : List (List Int)} {t dl : Int} {chances : List (List Int)} {logs : List ALog} (ho : valF 0 office = true) (hris : risF 0 logs = true) (hch : chF chances = true) (hf : ∀ c ∈ chances, ∃ x, xdS (col c 0) logs = some x) (hw : ∀ c ∈ chances, IntKind.i64.wrap (col c 2 + dl) = col c 2 + dl) :
  (xq3 t dl chances logs).map (mkR office t dl chances logs) = xdR office logs t dl chances ∧ xqW t dl chances logs = xjs (xdR office logs t dl chances) := by
 obtain ⟨ks, k1, k2, k3⟩ := xnY office logs t dl chances
 have e := xzD hris hf hw k1 k2
 refine ⟨?_, ?_⟩
 ·rw [e, k3]
  exact List.map_congr_left fun k hk => xBQ ho hris hch hf hw ((k2 k).1 hk)
 ·rw [xtk, e, k3]
  unfold xjs
  rw [List.map_map]; rfl
end Go.Proofs.YtikhnofbbcmpeaaGreat
set_option linter.unusedVariables false
set_option maxRecDepth 100000
namespace Go.Proofs.YtikhnofbbcmpeaaGreat
open Go Go.Sy
theorem xzO {gs om : List (List Int)} (he : expF gs om = true) : ∀ g ∈ gs, ∃ o ∈ om, canF g o = true := fun g hg => by
 unfold expF at he
 rw [Bool.and_eq_true, Bool.not_eq_true', List.any_eq_false] at he
 have := he.2 g hg
 cases ha : om.any (canF g) with
 | true => exact List.any_eq_true.1 ha
 | false => rw [ha] at this; exact absurd rfl this
theorem xA1 {gs om : List (List Int)} (hs : xeD gs) (hu : xwq gs) (h : om.length < (fewF gs).length) : expF gs om = false := by
 cases he : expF gs om with
 | false => rfl
 | true =>
  have := xBp hs hu (xzO he)
  omega
theorem xzU (m : Nat) (gs : List (List Int)) : xjd cmp3 (byF m gs) = true := (xmo _ _).2 fun i hi => by
 rw [← xy2, xwi]
 exact xtx (xs3 m gs).1 hi
theorem xBl {gs : List (List Int)} (hs : xeD gs) : expF gs (fewF gs) = true := by
 unfold expF
 rw [Bool.and_eq_true, Bool.not_eq_true', List.any_eq_false]
 refine ⟨?_, fun g hg => ?_⟩
 ·obtain ⟨⟨m, _, hm⟩, _⟩ := xqm hs
  rw [hm]; exact xzU m gs
 ·rw [List.any_eq_true.2 (xzN hs g hg)]; decide
def backF (gs : List (List Int)) (o : List Int) : List Int :=
 if col o 0 = 1 then [1, 0, col o 2] else if col o 0 = 2 then [2, col o 1, 0] else ((gs.find? fun g => decide (kOf g = (col o 1, col o 2))).map lft).getD o
end Go.Proofs.YtikhnofbbcmpeaaGreat
set_option linter.unusedVariables false
set_option maxRecDepth 100000
namespace Go.Proofs.YtikhnofbbcmpeaaGreat
open Go Go.Sy
theorem xtC (s : Int) : ∀ ships : List (List Int), xkk s ships = (xdS s (xax ships)).getD (0, [])
 | [] => rfl
 | x :: r => by
  have ih := xtC s r
  unfold xkk xdS xax at ih ⊢
  rw [List.map_cons, List.find?_cons, List.find?_cons]
  have : (x.getD 0 0 == s) = ((xia x).1 == s) := rfl
  rw [this]
  cases (xia x).1 == s with
  | true => rfl
  | false => exact ih
theorem xwO {s : Int} {ships : List (List Int)} (hd : xqP ships) : (xkk s ships).2.length ≤ 9223372036854775807 := by
 unfold xkk
 split
 ·rename_i x hx
  exact hd x (List.mem_of_find?_eq_some hx)
 ·exact Nat.zero_le _
theorem xtl (t dl : Int) (chances : List (List Int)) : ∀ logs : List ALog, (xqW t dl chances logs).length ≤ logs.length * chances.length
 | [] => Nat.zero_le _
 | x :: r => by
  have h1 := xtl t dl chances r
  have h2 := xtj t dl chances x
  unfold xqW at h1 ⊢
  rw [List.flatMap_cons, List.length_append, List.length_cons, Nat.add_mul]
  omega
theorem xAy (b : Bool) : (bif b then (1 : Int) else 0) = b2 b := by cases b <;> rfl
theorem xC9 {ow t dl : Int} {office ships chances : List (List Int)} (ho : office.length ≤ 9223372036854775807) (hs : ships.length ≤ 1000) (hc : chances.length ≤ 1000) (hd : xqP ships) :
  xeY ow t dl office ships chances ∧ xeJ ow t dl office ships chances = (xqW t dl chances (xax ships)).map fun g => mkR office t dl chances (xax ships) (kOf g) := by
 obtain ⟨g1, g2⟩ := xzs (t := t) (dl := dl) hs hc hd
 have hlen : (xqW t dl chances (xax ships)).length ≤ 1000000 := by
  have h1 := xtl t dl chances (xax ships)
  have h2 : (xax ships).length = ships.length := by unfold xax; rw [List.length_map]
  rw [h2] at h1
  exact Nat.le_trans h1 (Nat.mul_le_mul hs hc)
 generalize hG : xqW t dl chances (xax ships) = G at g2 hlen
 obtain ⟨h1, h2⟩ := xb2 (step := xdc ow t dl office ships chances) G (fun i (s : List (List Int)) => [.i i, .r s]) (fun s g => .inl (s ++ [mkR office t dl chances (xax ships) (kOf g)])) (fun i s => s.length ≤ i) (fun s => (1, [.i G.length, .r s])) 0
  (fun i s hi _ hI => by
   have hr := xay hi
   have hh := xAC ow 1 (col G[i] 1) 0 10000000 office ho
   have hon := xDi (so := xc9 (col G[i] 0) ships) (t := t) (dl := dl) (l := xc8 (col G[i] 0) ships) (chances := chances) (kOf G[i]) (xwO hd) (by omega)
   have hfit : ∀ x : List Int, xbf 24 (s.length + [x].length) := fun x => by unfold xbf maxLen; simp only [List.length_cons, List.length_nil]; omega
   have hof : xc8 (col G[i] 0) ships = ((xdS (kOf G[i]).1 (xax ships)).getD (0, [])).2 := congrArg Prod.snd (xtC (col G[i] 0) ships)
   refine ⟨?_, fun s' hs' => ?_⟩
   ·unfold xdc xkc xop
    rw [g2]
    simp only [gi_z, gr_1, gr_z]
    rw [dlt hi, xaa hr, xaa hr, xaa hr, xaS hi, xaa hh.1, xaa hr, xaa hr, xaa hr, xaa (show xfx (G[i].getD 0 0) ships from (by omega : ships.length ≤ 9223372036854775807)), xaa hr, xaa hr,
     xaa (show xfw (xc9 (G[i].getD 0 0) ships) t dl (G[i].getD 0 0) (G[i].getD 1 0) (xc8 (G[i].getD 0 0) ships) chances from hon.1), xaa hr, xaa hr, xaa (hfit _), xdh (by omega),
     show xeH ow 1 (G[i].getD 1 0) 0 10000000 office = _ from hh.2, show xix (xc9 (G[i].getD 0 0) ships) t dl (G[i].getD 0 0) (G[i].getD 1 0) (xc8 (G[i].getD 0 0) ships) chances = _ from hon.2, hof, xAy, xAy]
    rfl
   ·cases hs'
    rw [List.length_append, List.length_cons, List.length_nil]; omega)
  (fun i s hi _ => by
   have : i = G.length := by omega
   subst this
   unfold xdc
   rw [g2]
   simp only [gi_z, gr_1, gr_z, dnlt]) (s := []) (Nat.zero_le _)
 refine ⟨⟨g1, h1⟩, ?_⟩
 show gr (xan (xdc ow t dl office ships chances) [.i ((0 : Nat) : Int), .r []]).snd 1 = _
 rw [h2, List.drop_zero, xdY]
 have : ∀ (l s : List (List Int)), l.foldl (fun s g => s ++ [mkR office t dl chances (xax ships) (kOf g)]) s = s ++ l.map fun g => mkR office t dl chances (xax ships) (kOf g) := by
  intro l
  induction l with
  | nil => intro s; simp
  | cons x r ih => intro s; rw [List.foldl_cons, ih, List.map_cons, List.append_assoc]; rfl
 rw [this]; rfl
theorem xxz : ∀ (logs : List ALog) (b : Int), 0 ≤ b → b ≤ 8 → risF b logs = true → (logs.length : Int) ≤ 8 - b
 | [], b, _, h8, _ => by simp; omega
 | x :: r, b, hb, h8, h => by
  have hr : risF x.1 r = true := by
   unfold risF at h
   simp only [Bool.and_eq_true] at h
   exact h.2
  obtain ⟨h1, h2⟩ := xlP h x List.mem_cons_self
  obtain ⟨_, h3, h4⟩ := xxm h1
  have := xxz r x.1 (by omega) h4 hr
  rw [List.length_cons]
  omega
theorem xy4 {t dl : Int} {chances : List (List Int)} (hch : chF chances = true) (h0 : 0 ≤ dl) (h1 : dl ≤ 100000) : ∀ c ∈ chances, IntKind.i64.wrap (col c 2 + dl) = col c 2 + dl := fun c hc => by
 obtain ⟨q1, q2, _⟩ := (xne hch).2 c hc
 rw [xe6 (by omega)]
theorem xwj {ow t dl : Int} {office chances : List (List Int)} {logs : List ALog} (h : xi9 ow t dl office logs chances = true) : valF 0 office = true ∧ ow = 0 ∧ chF chances = true ∧ tmF t = true ∧ 0 ≤ dl ∧ dl ≤ 100000 ∧ risF 0 logs = true ∧ ∀ c ∈ chances, ∃ x, xdS (col c 0) logs = some x := by
 unfold xi9 at h
 simp only [Bool.and_eq_true, decide_eq_true_eq, Bool.not_eq_true', beq_iff_eq] at h
 obtain ⟨⟨⟨⟨⟨⟨⟨a1, a2⟩, a3⟩, a4⟩, a5⟩, a6⟩, a7⟩, a8⟩ := h
 refine ⟨by rw [a2] at a1; exact a1, a2, a3, a4, a5, a6, a7, fun c hc => ?_⟩
 have := List.any_eq_false.1 a8 c hc
 unfold xmH at this
 cases hf : xdS (col c 0) logs with
 | none => rw [hf] at this; exact absurd rfl this
 | some x => exact ⟨x, rfl⟩
theorem xz2 {ow t dl : Int} {office ships chances : List (List Int)} (ho : office.length ≤ 9223372036854775807) (hd : xqP ships) (h : xi9 ow t dl office (xax ships) chances = true) :
  xeY ow t dl office ships chances ∧ xeJ ow t dl office ships chances = xdR office (xax ships) t dl chances := by
 obtain ⟨a1, a2, a3, a4, a5, a6, a7, a8⟩ := xwj h
 have hsl : ships.length ≤ 1000 := by
  have := xxz (xax ships) 0 (by omega) (by omega) a7
  unfold xax at this
  rw [List.length_map] at this
  omega
 have hcl : chances.length ≤ 1000 := by have := (xne a3).1; omega
 obtain ⟨h1, h2⟩ := xC9 (ow := ow) (t := t) (dl := dl) ho hsl hcl hd
 refine ⟨h1, ?_⟩
 obtain ⟨r1, r2⟩ := xwG a1 a7 a3 a8 (xy4 (t := t) a3 a5 a6)
 rw [h2, ← r1, xtk, List.map_map]
 rfl
theorem xyr {office : List (List Int)} {logs : List ALog} {t dl : Int} {chances : List (List Int)} (hch : chF chances = true) : (xdR office logs t dl chances).length ≤ 200 := by
 have h1 := (xm2 (office := office) (logs := logs) (tm := t) (dl := dl) hch).2.2
 have h2 := (xne hch).1
 omega
end Go.Proofs.YtikhnofbbcmpeaaGreat
set_option linter.unusedVariables false
set_option maxRecDepth 100000
namespace Go.Proofs.YtikhnofbbcmpeaaGreat
open Go Go.Sy
theorem xC8 (o : Int) (office ships chances : List (List Int)) (hs : ships.length ≤ 9223372036854775807) : xfM o office ships chances ∧ (xeI o office ships chances = true → (chances.length ≤ 16 ∨ 200 < chances.length)) := by
 have hloop : xaz (xda o office ships chances) (xgj o office ships chances) := by
  refine (xd1 (step := xda o office ships chances) ships.length (fun i => decide (((decL (col (ships.getD i []) 1)).length : Int) > 40) && decide (((decL (col (ships.getD i []) 1)).length : Int) ≤ 200)) (fun i => [.b false, .i i]) (fun i => []) 0 3 [.b false, .i ships.length] (fun i hi => ?_) ?_).1
  ·have hr := xay hi
   unfold xda
   simp only [gi_1, gi_z, gb_z]
   rw [dlt hi, xaa hr, xaa hr, xaa hr, xaa (fun _ => hr), xaa (fun _ => hr), xaa hr, xdh (by omega), Int.toNat_natCast]
   show (bif decide (((decL (col (ships.getD i []) 1)).length : Int) > 40) == true then (bif decide (((decL (col (ships.getD i []) 1)).length : Int) ≤ 200) then _ else _) else _) = _
   cases decide (((decL (col (ships.getD i []) 1)).length : Int) > 40) <;> cases decide (((decL (col (ships.getD i []) 1)).length : Int) ≤ 200) <;> rfl
  ·unfold xda
   simp only [gi_1, gi_z, gb_z, dnlt]
 refine ⟨fun _ => hloop, fun h => ?_⟩
 unfold xeI at h
 by_cases h1 : chances.length ≤ 16
 ·exact .inl h1
 ·by_cases h2 : 200 < chances.length
  ·exact .inr h2
  ·have e1 : decide ((chances.length : Int) > 16) = true := decide_eq_true (by omega)
   have e2 : decide ((chances.length : Int) ≤ 200) = true := decide_eq_true (by omega)
   rw [e1, e2] at h
   cases h
end Go.Proofs.YtikhnofbbcmpeaaGreat
set_option linter.unusedVariables false
set_option maxRecDepth 100000
namespace Go.Proofs.YtikhnofbbcmpeaaGreat
open Go Go.Sy
theorem xt8 (ow t delay : Int) (office ships chances : List (List Int)) (h1 : office.length ≤ 9223372036854775807) (h2 : ships.length ≤ 9223372036854775807) (h3 : chances.length ≤ 9223372036854775807) (hd : xqP ships) :
  xbR ow t delay office ships chances = true ∧ xbd ow t delay office ships chances := by
 obtain ⟨f1, f2⟩ := xC8 ow office ships chances h2
 unfold xbR xbd
 rw [xtY]
 cases hg : (!xeI ow office ships chances) with
 | true => exact ⟨rfl, xsF, f1, fun h => by cases h⟩
 | false =>
  have hfew : xeI ow office ships chances = true := by simpa using hg
  obtain ⟨e1, e2, e3, e4⟩ := xrV (ow := ow) (t := t) (delay := delay) h1 h2 h3 hd ((f2 hfew).imp (fun h => by omega) id)
  rw [cond_false, e4]
  cases hc : xi9 ow t delay office (xax ships) chances with
  | false =>
   rw [hc, if_neg (by decide)] at e2
   rw [if_neg (by decide), e2]
   exact ⟨rfl, xsF, f1, fun _ => ⟨e1, fun h => by cases h⟩⟩
  | true =>
   rw [hc, if_pos rfl] at e2
   rw [if_pos rfl]
   obtain ⟨a1, a2⟩ := xz2 h1 hd hc
   have hch := (xwj hc).2.2.1
   obtain ⟨k1, k2, k3⟩ := xm2 (office := office) (logs := xax ships) (tm := t) (dl := delay) hch
   have hup := xBf office (xax ships) t delay chances
   have hglen := xyr (office := office) (logs := xax ships) (t := t) (dl := delay) hch
   have ho0 : (fewF (xdR office (xax ships) t delay chances)).length ≤ 1000 := by
    have h0 := xqn (xdR office (xax ships) t delay chances)
    have h1 := xjB 0 (xdR office (xax ships) t delay chances)
    omega
   have step : ∀ i, i < (fewF (xdR office (xax ships) t delay chances)).length → xaN ow t delay office ships chances [.b true, .i i] = some (0, [.b true, .i ((i + 1 : Nat) : Int)]) := fun i hi => by
    have hw : IntKind.i64.wrap ((i : Int) + 1) = ((i + 1 : Nat) : Int) := xdh (by omega)
    unfold xaN xbI xcB
    rw [a2, e2]
    generalize xdR office (xax ships) t delay chances = gs at k1 k2 k3 hup hglen hi ho0
    have hless : expF gs ((fewF gs).take i ++ (fewF gs).drop (i + 1)) = false := xA1 k1 hup (by rw [List.length_append, List.length_take, List.length_drop]; omega)
    obtain ⟨x1, x2⟩ := xmg gs ((fewF gs).take i ++ (fewF gs).drop (i + 1)) (by omega) (by rw [List.length_append, List.length_take, List.length_drop]; omega)
    have c0 : cutV (fewF gs) none (i : Int) = (fewF gs).take i := by unfold cutV loN; rw [Int.toNat_natCast, List.drop_zero]
    have c1 : cutV (fewF gs) (some ((i + 1 : Nat) : Int)) ((fewF gs).length : Int) = (fewF gs).drop (i + 1) := by
     show ((fewF gs).take ((fewF gs).length : Int).toNat).drop ((i + 1 : Nat) : Int).toNat = _
     rw [Int.toNat_natCast, Int.toNat_natCast, List.take_length]
    simp only [gi_1, gi_z, gb_z, hw, xat, c0, c1, List.nil_append]
    rw [decide_eq_true (by omega), cond_true, xaa (by omega), xaa ⟨⟨by show ((0 : Nat) : Int) ≤ _; omega, by omega⟩, by unfold xbf maxLen; rw [List.length_take]; omega⟩, xaa (by omega),
     xaa ⟨⟨by show ((((i + 1 : Nat) : Int).toNat : Nat) : Int) ≤ _; omega, by omega⟩, by unfold xbf maxLen; rw [List.length_take, List.length_drop]; omega⟩, xaa (fun _ => x1), x2, hless]
    rfl
   have fin : xaN ow t delay office ships chances [.b true, .i (fewF (xdR office (xax ships) t delay chances)).length] = some (2, [.b true, .i (fewF (xdR office (xax ships) t delay chances)).length]) := by
    unfold xaN
    rw [e2]
    simp only [gi_1, gi_z, gb_z, dnlt]
   have hinit : xbF ow t delay office ships chances = [.b true, .i ((0 : Nat) : Int)] := by
    unfold xbF
    rw [xtY, a2, e2, (xmg _ _ (by omega) (by omega)).2, xBl k1]; rfl
   obtain ⟨l1, l2⟩ := xAY (step := xaN ow t delay office ships chances) (fewF (xdR office (xax ships) t delay chances)).length 1 (fun _ => true) step (fun _ _ => rfl) fin hinit
   refine ⟨l2, xsF, f1, fun _ => ⟨e1, fun _ => ⟨a1, fun _ => ?_, l1⟩⟩⟩
   rw [a2, e2]
   exact (xmg _ _ (by omega) (by omega)).1
end Go.Proofs.YtikhnofbbcmpeaaGreat
