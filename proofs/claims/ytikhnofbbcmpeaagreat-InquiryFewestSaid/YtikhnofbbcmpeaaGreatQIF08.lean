/- Several texts in one (wip/pack.py): XInqPg XInqPh XInqPi XInqPj XInqPk XInqPl XInqPm XKoen XInqPn XInqPo XInqPt XInqQ0 XInqPu XInqPv XInqPw XInqPf2 XInqQFewest. -/
import Derived.Test.YtikhnofbbcmpeaaGreatQIF05
import Derived.Test.YtikhnofbbcmpeaaGreatQIF07
set_option linter.unusedVariables false
set_option maxRecDepth 100000
namespace Go.Proofs.YtikhnofbbcmpeaaGreat
open Go Go.Sy
abbrev ALog := Int × List (List Int)
noncomputable def xh7 (x : List Int) : ALog := (col x 0, decL (col x 1))
noncomputable def xaA (ships : List (List Int)) : List ALog := ships.map xh7
def xqQ (ships : List (List Int)) : Prop := ∀ x ∈ ships, (decL (col x 1)).length ≤ 9223372036854775807
def risF : Int → List ALog → Bool
 | _, [] => true
 | b, x :: r => valF x.1 x.2 && decide (b < x.1) && risF x.1 r
noncomputable def rowO (x : List Int) : List Int := [col x 0, col x 0, encL (decL (col x 1))]
def xdQ (s : Int) (logs : List ALog) : Option ALog := logs.find? fun x => x.1 == s
theorem xhZ (s : Int) : ∀ ships : List (List Int), xbR 1 [s] (ships.map rowO) = (xdQ s (xaA ships)).map fun x => [x.1, encL x.2]
 | [] => rfl
 | x :: r => by
  have ih := xhZ s r
  unfold xbR xdQ xaA at *
  rw [List.map_cons, List.map_cons, List.find?_cons, List.find?_cons]
  by_cases h : col x 0 = s
  ·have e1 : decide (List.take 1 (rowO x) = [s]) = true := decide_eq_true (by show [col x 0] = [s]; rw [h])
   have e2 : ((xh7 x).1 == s) = true := by show (col x 0 == s) = true; rw [h]; simp
   rw [e1, e2]; rfl
  ·have e1 : decide (List.take 1 (rowO x) = [s]) = false := decide_eq_false (by show ¬ [col x 0] = [s]; simpa using h)
   have e2 : ((xh7 x).1 == s) = false := by show (col x 0 == s) = false; simpa using h
   rw [e1, e2]; exact ih
noncomputable def xlk (ow t delay : Int) (s : Int × List (List Int)) (x : List Int) : (Int × List (List Int)) ⊕ (Nat × List U) :=
 if (!valF (col x 0) (decL (col x 1)) || decide (col x 0 ≤ s.1)) = true then .inr (0, [.i ow, .i t, .i delay, .r s.2]) else .inl (col x 0, putRow 1 [col x 0] [col x 0, encL (decL (col x 1))] s.2)
theorem xAt (ow t delay : Int) : ∀ (r pre : List (List Int)) (b : Int), (∀ x ∈ pre, col x 0 ≤ b) →
  (risF b (xaA r) = true → ∃ b', runL (xlk ow t delay) (b, pre.map rowO) r = .inl (b', (pre ++ r).map rowO)) ∧
  (risF b (xaA r) = false → ∃ rows, runL (xlk ow t delay) (b, pre.map rowO) r = .inr (0, [.i ow, .i t, .i delay, .r rows]))
 | [], pre, b, _ => ⟨fun _ => ⟨b, by simp [runL]⟩, fun h => by simp [xaA, risF] at h⟩
 | x :: r, pre, b, hpre => by
  have ex : xaA (x :: r) = xh7 x :: xaA r := rfl
  have er : risF b (xh7 x :: xaA r) = (valF (col x 0) (decL (col x 1)) && decide (b < col x 0) && risF (col x 0) (xaA r)) := rfl
  rw [ex, er]
  by_cases hv : (!valF (col x 0) (decL (col x 1)) || decide (col x 0 ≤ b)) = true
  ·have e : xlk ow t delay (b, pre.map rowO) x = .inr (0, [.i ow, .i t, .i delay, .r (pre.map rowO)]) := by unfold xlk; rw [if_pos hv]
   have hf : (valF (col x 0) (decL (col x 1)) && decide (b < col x 0)) = false := by
    rcases Bool.or_eq_true_iff.1 hv with h | h
    ·have : valF (col x 0) (decL (col x 1)) = false := by simpa using h
     rw [this]; rfl
    ·have : decide (b < col x 0) = false := decide_eq_false (by have := of_decide_eq_true h; omega)
     rw [this, Bool.and_false]
   rw [hf]
   refine ⟨(fun h => by cases h), fun _ => ⟨pre.map rowO, ?_⟩⟩
   unfold runL
   rw [e]
  ·have e0 : xlk ow t delay (b, pre.map rowO) x = .inl (col x 0, putRow 1 [col x 0] [col x 0, encL (decL (col x 1))] (pre.map rowO)) := by unfold xlk; rw [if_neg hv]
   have hv' : valF (col x 0) (decL (col x 1)) = true ∧ b < col x 0 := by
    simp only [Bool.or_eq_true, Bool.not_eq_true', decide_eq_true_eq, not_or] at hv
    exact ⟨by simpa using hv.1, by omega⟩
   have hno : (xbR 1 [col x 0] (pre.map rowO)).isSome = false := by
    rw [xhZ]
    have : xdQ (col x 0) (xaA pre) = none := by
     unfold xdQ xaA
     rw [List.find?_eq_none]
     intro y hy
     obtain ⟨z, hz, rfl⟩ := List.mem_map.1 hy
     have := hpre z hz
     show ¬ (col z 0 == col x 0) = true
     intro h
     have h := eq_of_beq h
     omega
    rw [this]; rfl
   have e : xlk ow t delay (b, pre.map rowO) x = .inl (col x 0, (pre ++ [x]).map rowO) := by
    rw [e0]
    unfold putRow
    rw [hno, cond_false, List.map_append]
    rfl
   have hf : (valF (col x 0) (decL (col x 1)) && decide (b < col x 0)) = true := by rw [hv'.1, decide_eq_true hv'.2]; rfl
   rw [hf, Bool.true_and]
   obtain ⟨i1, i2⟩ := xAt ow t delay r (pre ++ [x]) (col x 0) (fun y hy => by
    rcases List.mem_append.1 hy with hy | hy
    ·have := hpre y hy; omega
    ·rw [List.mem_singleton.1 hy]; exact Int.le_refl _)
   unfold runL
   rw [e]
   refine ⟨fun h => ?_, fun h => i2 h⟩
   obtain ⟨b', hb⟩ := i1 h
   exact ⟨b', by show runL (xlk ow t delay) (col x 0, (pre ++ [x]).map rowO) r = _; rw [hb, List.append_assoc]; rfl⟩
theorem xvW {ow t delay : Int} {office ships list : List (List Int)} (hs : ships.length ≤ 9223372036854775807) (hd : xqQ ships) :
  xax (xbg ow t delay office ships list) (xcb ow t delay office ships list) ∧
  (risF 0 (xaA ships) = true → (xap ow t delay office ships list).1.beq 1 = false ∧ gr (xap ow t delay office ships list).2 3 = ships.map rowO) ∧
  (risF 0 (xaA ships) = false → (xap ow t delay office ships list).1.beq 1 = true) := by
 obtain ⟨h1, h2⟩ := xbZ (step := xbg ow t delay office ships list) ships (fun i (s : Int × List (List Int)) => [.b false, .i s.1, .i i, .r s.2]) (xlk ow t delay) (fun _ _ => True) (fun s => (2, [.b false, .i s.1, .i ships.length, .r s.2])) 0
  (fun i s hi _ _ => ⟨by
   unfold xbg xkz
   simp only [gi_2, gi_1, gi_z, gb_z, gr_3, gr_z, dlt hi, xaa (xat hi), xde (show i < 9223372036854775807 by omega), xaM hi]
   have hx := hd _ (List.getElem_mem hi)
   generalize ships[i] = x at *
   obtain ⟨v1, v2⟩ := xfD (col x 0) (decL (col x 1)) hx
   rw [xaa v1, v2]
   unfold xlk
   cases h : (!valF (col x 0) (decL (col x 1)) || decide (col x 0 ≤ s.1)) with
   | true => rw [if_pos rfl]; rfl
   | false => rw [if_neg (by decide)]; rfl, fun _ _ => trivial⟩)
  (fun i s hi _ => by
   have : i = ships.length := by omega
   subst this
   unfold xbg
   simp only [gi_2, gi_1, gi_z, gb_z, gr_3, gr_z, dnlt]) (s := (0, [])) trivial
 have hi : xcb ow t delay office ships list = [.b false, .i 0, .i ((0 : Nat) : Int), .r []] := rfl
 unfold xap
 rw [hi]
 have g := xAt ow t delay ships [] 0 (fun x hx => by cases hx)
 simp only [List.map_nil, List.nil_append] at g
 obtain ⟨g1, g2⟩ := g
 refine ⟨h1, fun h => ?_, fun h => ?_⟩
 ·obtain ⟨b', hb⟩ := g1 h
  rw [h2, List.drop_zero, hb]
  refine ⟨rfl, ?_⟩
  show gr [.b false, .i b', .i ships.length, .r (ships.map rowO)] 3 = _
  rw [gr_3, gr_z]
 ·obtain ⟨rows, hr⟩ := g2 h
  rw [h2, List.drop_zero, hr]; rfl
def xmE (logs : List ALog) (c : List Int) : Bool := !(xdQ (col c 0) logs).isSome
theorem xx1 {ow t delay : Int} {office ships list : List (List Int)} (hl : list.length ≤ 9223372036854775807) (hs : ships.length ≤ 9223372036854775807) (hd : xqQ ships) (hr : risF 0 (xaA ships) = true) :
  xax (xbf ow t delay office ships list) (xcX ow t delay office ships list) ∧
  decide ((bif (xbG ow t delay office ships list).fst.beq 1 then gi (xbG ow t delay office ships list).snd 0 else (-1 : Int)) ≥ (0 : Int)) = list.any (xmE (xaA ships)) := by
 have hrows := ((xvW (ow := ow) (t := t) (delay := delay) (office := office) (list := list) hs hd).2.1 hr).2
 refine xji (step := xbf ow t delay office ships list) (l := list) (p := xmE (xaA ships)) 1 (fun i hi => ?_) ?_ rfl
 ·unfold xbf
  simp only [gi_1, gi_z, dlt hi, xaa (xat hi), xde (show i < 9223372036854775807 by omega), xaM hi]
  rw [show (xap ow t delay office ships list).snd = (xap ow t delay office ships list).2 from rfl, hrows, xhZ]
  unfold xmE
  rw [Option.isSome_map]
 ·unfold xbf
  simp only [gi_1, gi_z, dnlt]
def xi7 (ow t delay : Int) (office : List (List Int)) (logs : List ALog) (list : List (List Int)) : Bool :=
 valF ow office && ow == 0 && chF list && tmF t && decide (0 ≤ delay) && decide (delay ≤ 100000) && risF 0 logs && !list.any (xmE logs)
def xhG (ow t delay : Int) (office list : List (List Int)) : Bool := valF ow office && ow == 0 && chF list && tmF t && decide (0 ≤ delay) && decide (delay ≤ 100000)
theorem xvr (ow t delay : Int) (office : List (List Int)) (logs : List ALog) (list : List (List Int)) : xi7 ow t delay office logs list = (xhG ow t delay office list && risF 0 logs && !list.any (xmE logs)) := rfl
theorem xs2 {ow t delay : Int} {office list : List (List Int)} (ho : office.length ≤ 9223372036854775807) (hl : list.length ≤ 9223372036854775807) :
  (!xae ow office || ow != (0 : Int) || !xay list || !xau t || decide (delay < (0 : Int)) || decide (delay > (100000 : Int))) = !xhG ow t delay office list := by
 rw [(xfD ow office ho).2, (xi6 list hl).2, xpC]
 have e1 : decide (delay < 0) = !decide (0 ≤ delay) := by
  by_cases h : delay < 0
  ·rw [decide_eq_true h, decide_eq_false (by omega)]; rfl
  ·rw [decide_eq_false h, decide_eq_true (by omega)]; rfl
 have e2 : decide (delay > 100000) = !decide (delay ≤ 100000) := by
  by_cases h : delay > 100000
  ·rw [decide_eq_true h, decide_eq_false (by omega)]; rfl
  ·rw [decide_eq_false h, decide_eq_true (by omega)]; rfl
 rw [e1, e2]
 unfold xhG
 show (!valF ow office || !(ow == 0) || !chF list || !tmF t || !decide (0 ≤ delay) || !decide (delay ≤ 100000)) = _
 cases valF ow office <;> cases (ow == 0) <;> cases chF list <;> cases tmF t <;> cases decide (0 ≤ delay) <;> cases decide (delay ≤ 100000) <;> rfl
theorem xBL {n : Int} (h0 : -1000000000 ≤ n) (h1 : n ≤ 1000000000) : (Lit.int .i64 n).wf = true := by
 have e1 : IntKind.i64.min = -9223372036854775808 := by decide
 have e2 : IntKind.i64.max = 9223372036854775807 := by decide
 unfold Lit.wf
 simp only [e1, e2, Bool.and_eq_true, decide_eq_true_eq]
 omega
def xj4 (logs : List ALog) (c : List Int) : List (List Int) := ((xdQ (col c 0) logs).getD (0, [])).2
def xr6 (logs : List ALog) (tm dl : Int) (c : List Int) : Bool := decide (col c 2 + dl > tm) || (xpJ tm (xj4 logs c)).contains (col c 1)
def offF (logs : List ALog) (c : List Int) : Bool := decide (xnH 0 (-1) (xj4 logs c) < col c 2) || !onF (col c 2) true (xj4 logs c)
def updF (logs : List ALog) (c g : List Int) : List Int := [col g 0, col g 1, b2 (col g 2 != 0), b2 (col g 3 != 0 && offF logs c)]
def xlK (office : List (List Int)) (logs : List ALog) (tm dl : Int) (gs : List (List Int)) (c : List Int) : List (List Int) :=
 bif xr6 logs tm dl c then gs else
 bif gs.any (xfh c) then gs.map fun g => bif xfh c g then updF logs c g else g
 else gs ++ [updF logs c [col c 0, col c 1, b2 (!xuG (col c 1) (-1) office), 1]]
def xe4 (office : List (List Int)) (logs : List ALog) (tm dl : Int) (list : List (List Int)) : List (List Int) := (xmj (list.foldl (xlK office logs tm dl) [])).map xl5
theorem xyD (n : Int) (l : List Int) : hasN n (xaF l) = l.contains n := by
 unfold hasN xaF
 rw [List.any_map, List.contains_eq_any_beq]
 rfl
theorem xlP : ∀ {logs : List ALog} {b : Int}, risF b logs = true → ∀ x ∈ logs, valF x.1 x.2 = true ∧ b < x.1
 | [], _, _, x, hx => by cases hx
 | y :: r, b, h, x, hx => by
  unfold risF at h
  simp only [Bool.and_eq_true, decide_eq_true_eq] at h
  rcases List.mem_cons.1 hx with rfl | hx
  ·exact h.1
  ·have := xlP h.2 x hx
   exact ⟨this.1, by omega⟩
theorem xtg {logs : List ALog} (h : risF 0 logs = true) (c : List Int) : (xj4 logs c).length ≤ 200 := by
 unfold xj4 xdQ
 cases hf : logs.find? fun x => x.1 == col c 0 with
 | none => simp
 | some x => exact (xxz (xlP h x (List.mem_of_find?_eq_some hf)).1).1
theorem xpp (ships : List (List Int)) (c : List Int) : gSl (ships.map rowO) c = xj4 (xaA ships) c := by
 unfold gSl xBy xj4
 rw [xhZ]
 cases xdQ (c.getD 0 0) (xaA ships) with
 | none => exact xfr _
 | some x => exact xfr _
theorem xnb {list : List (List Int)} (h : chF list = true) : list.length ≤ 200 ∧ ∀ c ∈ list, 0 ≤ col c 2 ∧ col c 2 ≤ 10000000 ∧ 1 ≤ col c 1 ∧ col c 1 ≤ 10000 ∧ 1 ≤ col c 0 ∧ col c 0 ≤ 8 := by
 unfold chF at h
 simp only [Bool.and_eq_true, decide_eq_true_eq, Bool.not_eq_true'] at h
 refine ⟨h.1, fun c hc => ?_⟩
 have := List.any_eq_false.1 h.2 c hc
 unfold badC tmF itF at this
 simp only [Bool.not_eq_true, Bool.or_eq_false_iff, Bool.not_eq_false', Bool.and_eq_true, decide_eq_true_eq, decide_eq_false_iff_not] at this
 omega
theorem xvd {ow t delay : Int} {office ships list : List (List Int)} (ho : office.length ≤ 9223372036854775807) (hc : xhG ow t delay office list = true) (hr : risF 0 (xaA ships) = true) :
  xcT ow t delay office (ships.map rowO) list ∧ xal ow t delay office (ships.map rowO) list = xe4 office (xaA ships) t delay list := by
 unfold xhG at hc
 simp only [Bool.and_eq_true, decide_eq_true_eq] at hc
 obtain ⟨⟨⟨⟨⟨hv, h0⟩, hch⟩, htm⟩, hd0⟩, hd1⟩ := hc
 obtain ⟨hlen, hcs⟩ := xnb hch
 have eskip : ∀ c ∈ list, xrb (ships.map rowO) t delay c = xr6 (xaA ships) t delay c ∧ GPre office (ships.map rowO) ow t delay c := by
  intro c hc
  obtain ⟨q1, q2, q3, q4, q5, q6⟩ := hcs c hc
  have hsl := xtg hr c
  have hsh := xvL (gSo (ships.map rowO) c) t (xj4 (xaA ships) c) (by omega)
  have hcn := xvl (col c 1) (xaF (xpJ t (xj4 (xaA ships) c))) (by
   have h1 := xtB (xj6 t (xj4 (xaA ships) c))
   have h2 := xj5 t (xj4 (xaA ships) c)
   unfold xaF xpJ
   rw [List.length_map]
   omega)
  have elate : xyS t delay c = decide (col c 2 + delay > t) := by
   unfold xyS
   have q1' : 0 ≤ c.getD 2 0 := q1
   have q2' : c.getD 2 0 ≤ 10000000 := q2
   rw [xe3 (by omega)]
  have e : xrb (ships.map rowO) t delay c = xr6 (xaA ships) t delay c := by
   unfold xrb xr6
   rw [elate, xpp, hsh.2]
   congr 1
   exact hcn.2.trans (xyD _ _)
  refine ⟨e, ⟨xBL (n := col c 0) (by omega) (by omega), xBL (n := col c 1) (by omega) (by omega), fun _ => ?_, fun _ => ?_⟩⟩
  ·rw [xpp]
   exact ⟨hsh.1, by rw [hsh.2]; exact hcn.1⟩
  ·rw [xpp]
   exact ⟨(xsa _ _ _ office ho).1, (xu3 _ _ (by omega)).1, (xx5 _ _ _ (by omega)).1⟩
 refine ⟨⟨by omega, fun c hc => (eskip c hc).2⟩, ?_⟩
 unfold xal xe4
 congr 2
 have key : ∀ (l : List (List Int)) (gs : List (List Int)), (∀ c ∈ l, c ∈ list) → l.foldl (xl4 office (ships.map rowO) ow t delay) gs = l.foldl (xlK office (xaA ships) t delay) gs := by
  intro l
  induction l with
  | nil => intro gs _; rfl
  | cons c r ih =>
   intro gs hl
   rw [List.foldl_cons, List.foldl_cons]
   have hcm := hl c List.mem_cons_self
   have hsl := xtg hr c
   have e : xl4 office (ships.map rowO) ow t delay gs c = xlK office (xaA ships) t delay gs c := by
    have eu : ∀ g, gUpd (ships.map rowO) c g = updF (xaA ships) c g := fun g => by
     unfold gUpd updF offF
     rw [xpp, (xu3 _ _ (by omega)).2.1, (xx5 _ _ _ (by omega)).2]
    unfold xl4 xlK
    rw [(eskip c hcm).1, (xsa _ _ _ office ho).2]
    simp only [eu]
   rw [e]
   exact ih _ fun x hx => hl x (List.mem_cons_of_mem _ hx)
 exact key list [] fun c h => h
end Go.Proofs.YtikhnofbbcmpeaaGreat
set_option linter.unusedVariables false
set_option maxRecDepth 100000
namespace Go.Proofs.YtikhnofbbcmpeaaGreat
open Go Go.Sy
abbrev Key := Int × Int
def kOf (g : List Int) : Key := (col g 0, col g 1)
def ltK (a b : Key) : Prop := a.1 < b.1 ∨ (a.1 = b.1 ∧ a.2 < b.2)
def cntF (logs : List ALog) (tm dl : Int) (c : List Int) : Bool := !xr6 logs tm dl c
def mkG (office : List (List Int)) (logs : List ALog) (tm dl : Int) (list : List (List Int)) (k : Key) : List Int :=
 [k.1, k.2, b2 (!xuG k.2 (-1) office), b2 (list.all fun c => !(cntF logs tm dl c && decide (kOf c = k)) || offF logs c)]
theorem b2_b (b : Bool) : b2 (b2 b != 0) = b2 b := by cases b <;> rfl
theorem xnW (c g : List Int) : xfh c g = decide (kOf c = kOf g) := by
 unfold xfh kOf
 by_cases h : (col c 0, col c 1) = (col g 0, col g 1)
 ·rw [decide_eq_true h]
  obtain ⟨h1, h2⟩ := Prod.mk.inj h
  rw [show g.getD 0 0 = c.getD 0 0 from h1.symm, show g.getD 1 0 = c.getD 1 0 from h2.symm]
  simp
 ·rw [decide_eq_false h]
  cases hb : (g.getD 0 0 == c.getD 0 0 && g.getD 1 0 == c.getD 1 0) with
  | false => rfl
  | true =>
   rw [Bool.and_eq_true, beq_iff_eq, beq_iff_eq] at hb
   exact absurd (Prod.ext hb.1.symm hb.2.symm) h
theorem xm1 (office : List (List Int)) (logs : List ALog) (tm dl : Int) : ∀ (r done : List (List Int)) (ks : List Key), ks.Nodup → (∀ k, k ∈ ks ↔ ∃ c ∈ done, cntF logs tm dl c = true ∧ kOf c = k) →
  ∃ ks' : List Key, ks'.Nodup ∧ (∀ k, k ∈ ks' ↔ ∃ c ∈ done ++ r, cntF logs tm dl c = true ∧ kOf c = k) ∧ r.foldl (xlK office logs tm dl) (ks.map (mkG office logs tm dl done)) = ks'.map (mkG office logs tm dl (done ++ r))
 | [], done, ks, hn, hk => ⟨ks, hn, by simpa using hk, by simp⟩
 | c :: r, done, ks, hn, hk => by
  rw [List.foldl_cons]
  have emk : ∀ k, cntF logs tm dl c = false ∨ kOf c ≠ k → mkG office logs tm dl (done ++ [c]) k = mkG office logs tm dl done k := fun k h => by
   unfold mkG
   have : (!(cntF logs tm dl c && decide (kOf c = k)) || offF logs c) = true := by
    rcases h with h | h
    ·rw [h]; rfl
    ·rw [decide_eq_false h, Bool.and_false]; rfl
   rw [List.all_append, List.all_cons, List.all_nil, this, Bool.true_and, Bool.and_true]
  cases hs : xr6 logs tm dl c with
  | true =>
   have hc : cntF logs tm dl c = false := by unfold cntF; rw [hs]; rfl
   have e : xlK office logs tm dl (ks.map (mkG office logs tm dl done)) c = ks.map (mkG office logs tm dl (done ++ [c])) := by
    unfold xlK
    rw [hs, cond_true]
    exact List.map_congr_left fun k _ => (emk k (.inl hc)).symm
   rw [e]
   have hk' : ∀ k, k ∈ ks ↔ ∃ x ∈ done ++ [c], cntF logs tm dl x = true ∧ kOf x = k := fun k => by
    rw [hk]
    constructor
    ·rintro ⟨x, hx, h⟩; exact ⟨x, List.mem_append.2 (.inl hx), h⟩
    ·rintro ⟨x, hx, h⟩
     rcases List.mem_append.1 hx with hx | hx
     ·exact ⟨x, hx, h⟩
     ·rw [List.mem_singleton.1 hx, hc] at h
      cases h.1
   have := xm1 office logs tm dl r (done ++ [c]) ks hn hk'
   simpa [List.append_assoc] using this
  | false =>
   have hc : cntF logs tm dl c = true := by unfold cntF; rw [hs]; rfl
   have hkey : ∀ k, kOf (mkG office logs tm dl done k) = k := fun k => rfl
   have hany : (ks.map (mkG office logs tm dl done)).any (xfh c) = decide (kOf c ∈ ks) := by
    rw [List.any_map]
    by_cases h : kOf c ∈ ks
    ·rw [decide_eq_true h, List.any_eq_true]
     exact ⟨kOf c, h, by show xfh c (mkG office logs tm dl done (kOf c)) = true; rw [xnW, hkey]; exact decide_eq_true rfl⟩
    ·rw [decide_eq_false h, List.any_eq_false]
     intro k hk'
     show ¬ xfh c (mkG office logs tm dl done k) = true
     rw [xnW, hkey]
     intro h'
     exact h ((of_decide_eq_true h') ▸ hk')
   by_cases hin : kOf c ∈ ks
   ·have e : xlK office logs tm dl (ks.map (mkG office logs tm dl done)) c = ks.map (mkG office logs tm dl (done ++ [c])) := by
     unfold xlK
     rw [hs, cond_false, hany, decide_eq_true hin, cond_true, List.map_map]
     refine List.map_congr_left fun k _ => ?_
     show (bif xfh c (mkG office logs tm dl done k) then updF logs c (mkG office logs tm dl done k) else mkG office logs tm dl done k) = _
     rw [xnW, hkey]
     by_cases h : kOf c = k
     ·rw [decide_eq_true h, cond_true]
      show [k.1, k.2, b2 (b2 (!xuG k.2 (-1) office) != 0), b2 (b2 (done.all fun c => !(cntF logs tm dl c && decide (kOf c = k)) || offF logs c) != 0 && offF logs c)] = _
      rw [b2_b, xCx]
      unfold mkG
      rw [List.all_append, List.all_cons, List.all_nil, hc, decide_eq_true h, Bool.and_true]
      rfl
     ·rw [decide_eq_false h, cond_false]
      exact (emk k (.inr h)).symm
    rw [e]
    have hk' : ∀ k, k ∈ ks ↔ ∃ x ∈ done ++ [c], cntF logs tm dl x = true ∧ kOf x = k := fun k => by
     constructor
     ·intro h
      obtain ⟨x, hx, h⟩ := (hk k).1 h
      exact ⟨x, List.mem_append.2 (.inl hx), h⟩
     ·rintro ⟨x, hx, h⟩
      rcases List.mem_append.1 hx with hx | hx
      ·exact (hk k).2 ⟨x, hx, h⟩
      ·rw [List.mem_singleton.1 hx] at h
       exact h.2 ▸ hin
    have := xm1 office logs tm dl r (done ++ [c]) ks hn hk'
    simpa [List.append_assoc] using this
   ·have e : xlK office logs tm dl (ks.map (mkG office logs tm dl done)) c = (ks ++ [kOf c]).map (mkG office logs tm dl (done ++ [c])) := by
     unfold xlK
     rw [hs, cond_false, hany, decide_eq_false hin, cond_false, List.map_append]
     congr 1
     ·exact List.map_congr_left fun k hk' => (emk k (.inr fun h => hin (h ▸ hk'))).symm
     ·show [[col c 0, col c 1, b2 (b2 (!xuG (col c 1) (-1) office) != 0), b2 (true && offF logs c)]] = [mkG office logs tm dl (done ++ [c]) (kOf c)]
      rw [b2_b]
      unfold mkG
      have hall : (done.all fun c' => !(cntF logs tm dl c' && decide (kOf c' = kOf c)) || offF logs c') = true := by
       rw [List.all_eq_true]
       intro x hx
       cases h1 : cntF logs tm dl x with
       | false => rfl
       | true =>
        have : ¬ kOf x = kOf c := fun h => hin ((hk _).2 ⟨x, hx, h1, h⟩)
        rw [decide_eq_false this]; rfl
      rw [List.all_append, List.all_cons, List.all_nil, hall, hc, decide_eq_true rfl]
      simp [kOf]
    rw [e]
    have hk' : ∀ k, k ∈ ks ++ [kOf c] ↔ ∃ x ∈ done ++ [c], cntF logs tm dl x = true ∧ kOf x = k := fun k => by
     rw [List.mem_append, hk, List.mem_singleton]
     constructor
     ·rintro (⟨x, hx, h⟩ | h)
      ·exact ⟨x, List.mem_append.2 (.inl hx), h⟩
      ·exact ⟨c, by simp, hc, h.symm⟩
     ·rintro ⟨x, hx, h⟩
      rcases List.mem_append.1 hx with hx | hx
      ·exact .inl ⟨x, hx, h⟩
      ·rw [List.mem_singleton.1 hx] at h
       exact .inr h.2.symm
    have hn' : (ks ++ [kOf c]).Nodup := List.nodup_append.2 ⟨hn, by simp, fun a ha b hb e => hin (by rw [List.mem_singleton.1 hb] at e; exact e ▸ ha)⟩
    have := xm1 office logs tm dl r (done ++ [c]) (ks ++ [kOf c]) hn' hk'
    simpa [List.append_assoc] using this
theorem xnV (office : List (List Int)) (logs : List ALog) (tm dl : Int) (list : List (List Int)) : ∃ ks : List Key, ks.Pairwise ltK ∧ (∀ k, k ∈ ks ↔ ∃ c ∈ list, cntF logs tm dl c = true ∧ kOf c = k) ∧ xe4 office logs tm dl list = ks.map (mkG office logs tm dl list) := by
 obtain ⟨ks, h1, h2, h3⟩ := xm1 office logs tm dl list [] [] List.nodup_nil (by simp)
 have h2 : ∀ k, k ∈ ks ↔ ∃ c ∈ list, cntF logs tm dl c = true ∧ kOf c = k := h2
 have h3 : list.foldl (xlK office logs tm dl) [] = ks.map (mkG office logs tm dl list) := h3
 have hp := xhc (le := leL [0, 1]) (ks.map (mkG office logs tm dl list))
 have hsort := xgI (xeJ [0, 1]) (xeI [0, 1]) (ks.map (mkG office logs tm dl list))
 have hmem : ∀ g ∈ xfB (leL [0, 1]) (ks.map (mkG office logs tm dl list)), mkG office logs tm dl list (kOf g) = g ∧ kOf g ∈ ks := fun g hg => by
  obtain ⟨k, hk, rfl⟩ := List.mem_map.1 (hp.mem_iff.1 hg)
  exact ⟨rfl, hk⟩
 have hks : ((xfB (leL [0, 1]) (ks.map (mkG office logs tm dl list))).map kOf).Perm ks := by
  have := hp.map kOf
  rw [List.map_map] at this
  have e : ks.map (kOf ∘ mkG office logs tm dl list) = ks := (List.map_congr_left fun k _ => rfl).trans (List.map_id ks)
  rwa [e] at this
 refine ⟨(xfB (leL [0, 1]) (ks.map (mkG office logs tm dl list))).map kOf, ?_, fun k => by rw [hks.mem_iff, h2], ?_⟩
 ·have hnd : ((xfB (leL [0, 1]) (ks.map (mkG office logs tm dl list))).map kOf).Nodup := hks.nodup_iff.2 h1
  rw [List.pairwise_map]
  have hne : (xfB (leL [0, 1]) (ks.map (mkG office logs tm dl list))).Pairwise fun a b => kOf a ≠ kOf b := by
   rw [← List.pairwise_map]
   exact hnd
  refine (List.Pairwise.and hsort hne).imp fun {a b} h => ?_
  obtain ⟨h1, h2⟩ := h
  unfold leL at h1
  show col a 0 < col b 0 ∨ (col a 0 = col b 0 ∧ col a 1 < col b 1)
  by_cases e0 : a.getD 0 0 = b.getD 0 0
  ·rw [if_pos e0] at h1
   unfold leL at h1
   by_cases e1 : a.getD 1 0 = b.getD 1 0
   ·exact absurd (Prod.ext e0 e1) h2
   ·rw [if_neg e1] at h1
    exact .inr ⟨e0, of_decide_eq_true h1⟩
  ·rw [if_neg e0] at h1
   exact .inl (of_decide_eq_true h1)
 ·unfold xe4 xmj
  rw [h3, List.map_map]
  refine List.map_congr_left fun g hg => ?_
  obtain ⟨e, _⟩ := hmem g hg
  show xl5 g = mkG office logs tm dl list (kOf g)
  rw [e]
  rw [← e]
  show [_, _, b2 (b2 _ != 0), b2 (b2 _ != 0)] = _
  rw [b2_b, b2_b]
  rfl
def xuz (gs : List (List Int)) : Prop := ∀ g ∈ gs, xl5 g = g
theorem xmZ {office : List (List Int)} {logs : List ALog} {tm dl : Int} {list : List (List Int)} (hch : chF list = true) : xeS (xe4 office logs tm dl list) ∧ xuz (xe4 office logs tm dl list) ∧ (xe4 office logs tm dl list).length ≤ list.length := by
 obtain ⟨ks, h1, h2, h3⟩ := xnV office logs tm dl list
 obtain ⟨hlen, hcs⟩ := xnb hch
 rw [h3]
 refine ⟨fun g hg => ?_, fun g hg => ?_, ?_⟩
 ·obtain ⟨k, hk, rfl⟩ := List.mem_map.1 hg
  obtain ⟨c, hc, _, rfl⟩ := (h2 k).1 hk
  have := hcs c hc
  show 0 ≤ col c 0 ∧ col c 0 ≤ 8
  omega
 ·obtain ⟨k, hk, rfl⟩ := List.mem_map.1 hg
  show [_, _, b2 (b2 _ != 0), b2 (b2 _ != 0)] = _
  rw [b2_b, b2_b]
  rfl
 ·have hl : ∀ (l : List (List Int)) (gs : List (List Int)), (l.foldl (xlK office logs tm dl) gs).length ≤ gs.length + l.length := by
   intro l
   induction l with
   | nil => intro gs; simp
   | cons c r ih =>
    intro gs
    rw [List.foldl_cons]
    refine Nat.le_trans (ih _) ?_
    have : (xlK office logs tm dl gs c).length ≤ gs.length + 1 := by
     unfold xlK
     cases xr6 logs tm dl c
     ·rw [cond_false]
      cases gs.any (xfh c)
      ·rw [cond_false]; simp
      ·rw [cond_true]; simp
     ·rw [cond_true]; omega
    simp only [List.length_cons]
    omega
  rw [← h3]
  unfold xe4 xmj
  rw [List.length_map, xeK]
  simpa using hl list []
end Go.Proofs.YtikhnofbbcmpeaaGreat
set_option linter.unusedVariables false
set_option maxRecDepth 100000
namespace Go.Proofs.YtikhnofbbcmpeaaGreat
open Go Go.Sy
def apF (g h : List Int) : Bool := !(col g 0 == col h 0 && (col g 1 == col h 1 && true)) && !((col g 2 != 0) && (col h 2 != 0) && col g 1 == col h 1) && !((col g 3 != 0) && (col h 3 != 0) && col g 0 == col h 0)
noncomputable def goP (k : Int → List (List Int) → List (List Int)) (n : Int) : List (List Int) → List (List Int)
 | [] => []
 | g :: r => if ((fewF (r.filter (apF g))).length : Int) = n - 1 then [col g 0, col g 1] :: k (n - 1) (r.filter (apF g)) else goP k n r
noncomputable def prF : Nat → Int → List (List Int) → List (List Int)
 | 0, _, _ => []
 | m + 1, n, list => if n = 0 then [] else goP (prF m) n list
theorem xrE {k : Int → List (List Int) → List (List Int)} (hk : ∀ n l, (k n l).length ≤ l.length) (n : Int) : ∀ l, (goP k n l).length ≤ l.length
 | [] => Nat.le_refl _
 | g :: r => by
  unfold goP
  split
  ·have h1 := hk (n - 1) (r.filter (apF g))
   have h2 := List.length_filter_le (apF g) r
   simp only [List.length_cons]
   omega
  ·have := xrE hk n r
   simp only [List.length_cons]
   omega
theorem xrr : ∀ (m : Nat) (n : Int) (l : List (List Int)), (prF m n l).length ≤ l.length
 | 0, _, _ => Nat.zero_le _
 | m + 1, n, l => by
  unfold prF
  split
  ·exact Nat.zero_le _
  ·exact xrE (xrr m) n l
theorem xA6 {pr : Int → List (List Int) → Prop} {g : Int → List (List Int) → List (List Int)} {n : Int} {list : List (List Int)} (hok : xuz list) (hl : list.length ≤ 1000000) {i : Nat} (hi : i < list.length) :
  xax (xfn pr g n list [.i i]) (xlQ pr g n list [.i i]) ∧ gr (xpW pr g n list [.i i]).snd 1 = (list.drop (i + 1)).filter (apF list[i]) := by
 have hw : IntKind.i64.wrap ((i : Int) + 1) = ((i + 1 : Nat) : Int) := xde (by omega)
 have hld : (list.drop (i + 1)).length = list.length - (i + 1) := List.length_drop
 obtain ⟨h1, h2⟩ := xbZ (step := xfn pr g n list [.i i]) (list.drop (i + 1)) (fun j (s : List (List Int)) => [.i j, .r s]) (fun s x => .inl (if apF list[i] x = true then s ++ [x] else s)) (fun j s => s.length ≤ j) (fun s => (2, [.i ((list.drop (i + 1)).length : Nat), .r s])) 0
  (fun j s hj _ hI => by
   have hj' : i + 1 + j < list.length := by omega
   have he : (list.drop (i + 1))[j] = list[i + 1 + j] := List.getElem_drop
   have hfit : ∀ x : List Int, xbl 24 (s.length + [x].length) := fun x => by unfold xbl maxLen; simp only [List.length_cons, List.length_nil]; omega
   refine ⟨?_, fun s' hs' => by cases hs'; exact Nat.le_trans (xrB _ _ _) (by omega)⟩
   rw [he]
   have hn := hok _ (List.getElem_mem hj')
   unfold xfn xxS xxR xAn xAp xAo
   simp only [gi_z, gr_1, gr_z, hw, xaw, loN, shI, Int.toNat_natCast, xde (show j < 9223372036854775807 by omega)]
   rw [decide_eq_true (by omega), cond_true, xaa (by omega), xaa (by unfold inR; omega), show (((i + 1 : Nat) : Int) + (j : Int)).toNat = i + 1 + j by omega, xaX hj', xaX hi, xaa (hfit _)]
   have hn' : [list[i + 1 + j].getD 0 0, list[i + 1 + j].getD 1 0, bif list[i + 1 + j].getD 2 0 != 0 then 1 else 0, bif list[i + 1 + j].getD 3 0 != 0 then 1 else 0] = list[i + 1 + j] := hn
   rw [hn']
   show (bif apF list[i] list[i + 1 + j] then _ else _) = _
   cases apF list[i] list[i + 1 + j]
   ·rw [if_neg (by decide)]; rfl
   ·rw [if_pos rfl]; rfl)
  (fun j s hj _ => by
   have : j = (list.drop (i + 1)).length := by omega
   subst this
   unfold xfn xxS
   simp only [gi_z, gr_1, gr_z, hw, xaw, loN, Int.toNat_natCast, hld]
   rw [decide_eq_false (by omega)]; rfl) (s := []) (Nat.zero_le _)
 refine ⟨h1, ?_⟩
 have : xpW pr g n list [.i i] = xam (xfn pr g n list [.i i]) [.i ((0 : Nat) : Int), .r []] := rfl
 rw [this, h2, List.drop_zero, xdV, xgJ, List.nil_append]
 show gr [.i _, .r (((list.drop (i + 1)).filter (apF list[i])).map fun x => x)] 1 = _
 rw [gr_1, gr_z, List.map_id']
theorem xAl : ∀ (k n : Nat) (list : List (List Int)), n < k → n ≤ 1000000 → xeS list → xuz list → list.length ≤ 1000000 → (prx k).1 n list ∧ (prx k).2 n list = prF k n list
 | 0, n, list, hn, _, _, _, _ => by omega
 | k + 1, n, list, hn, hnb, hs, hok, hl => by
  show xuM (prx k).1 (prx k).2 n list ∧ xzJ (prx k).1 (prx k).2 n list = prF (k + 1) n list
  by_cases h0 : n = 0
  ·subst h0
   exact ⟨(fun h => by cases h), rfl⟩
  ·have hn0 : ((n : Int) == 0) = false := by simpa using h0
   have key : ∀ m i, i + m = list.length → ∃ q r, xhs (xgk (prx k).1 (prx k).2 n list) q [.i i] = some r ∧ (bif r.1.beq 1 then gr r.2 0 else []) = goP (prF k) n (list.drop i) := by
    intro m
    induction m with
    | zero =>
     intro i hi
     have hi : i = list.length := by omega
     subst hi
     refine ⟨1, (3, [.i list.length]), xjl ?_, ?_⟩
     ·unfold xgk
      simp only [gi_z, dnlt]
     ·rw [List.drop_length]; rfl
    | succ m ih =>
     intro i hi
     have hi' : i < list.length := by omega
     have hw : IntKind.i64.wrap ((i : Int) + 1) = ((i + 1 : Nat) : Int) := xde (by omega)
     have hwn : IntKind.i64.wrap ((n : Int) - 1) = ((n - 1 : Nat) : Int) := by rw [xe3 (by omega)]; omega
     obtain ⟨q1, q2⟩ := xA6 (pr := (prx k).1) (g := (prx k).2) (n := (n : Int)) hok hl hi'
     have hsub : ∀ x ∈ (list.drop (i + 1)).filter (apF list[i]), x ∈ list := fun x hx => List.mem_of_mem_drop (List.mem_filter.1 hx).1
     have hlr : ((list.drop (i + 1)).filter (apF list[i])).length ≤ 1000000 := Nat.le_trans (List.length_filter_le _ _) (by rw [List.length_drop]; omega)
     have hs' : xeS ((list.drop (i + 1)).filter (apF list[i])) := fun x hx => hs x (hsub x hx)
     have hok' : xuz ((list.drop (i + 1)).filter (apF list[i])) := fun x hx => hok x (hsub x hx)
     obtain ⟨f1, f2⟩ := xt8 hs' hlr
     obtain ⟨p1, p2⟩ := xAl k (n - 1) _ (by omega) (by omega) hs' hok' hlr
     have hplen := xrr k ((n - 1 : Nat) : Int) ((list.drop (i + 1)).filter (apF list[i]))
     have hstep : xgk (prx k).1 (prx k).2 n list [.i i] = if ((fewF ((list.drop (i + 1)).filter (apF list[i]))).length : Int) = n - 1 then some (1, [.r ([col list[i] 0, col list[i] 1] :: prF k (n - 1) ((list.drop (i + 1)).filter (apF list[i])))]) else some (0, [.i ((i + 1 : Nat) : Int)]) := by
      unfold xgk xAm
      simp only [gi_z, hw, hwn]
      rw [q2, f2, p2, dlt hi', xaa (xat hi'), xaa (xat hi'), xaa (by omega), xaa q1, xaa f1, xaa p1, xaM hi',
       xaa (by unfold xbl maxLen; simp only [List.length_cons, List.length_nil]; omega)]
      have en : ((n - 1 : Nat) : Int) = (n : Int) - 1 := by omega
      rw [en]
      by_cases h : ((fewF ((list.drop (i + 1)).filter (apF list[i]))).length : Int) = n - 1
      ·rw [if_pos h, h, beq_self_eq_true, cond_true]; rfl
      ·rw [if_neg h, bne h]; rfl
     rw [List.drop_eq_getElem_cons hi']
     unfold goP
     by_cases h : ((fewF ((list.drop (i + 1)).filter (apF list[i]))).length : Int) = n - 1
     ·rw [if_pos h] at hstep
      rw [if_pos h]
      refine ⟨1, _, xjl hstep, ?_⟩
      exact gr_z _ []
     ·rw [if_neg h] at hstep
      rw [if_neg h]
      obtain ⟨q, r, h1, h2⟩ := ih (i + 1) (by omega)
      exact ⟨q + 1, r, xiI hstep h1, h2⟩
   obtain ⟨q, r, h1, h2⟩ := key list.length 0 (by omega)
   have hinit : xlR (prx k).1 (prx k).2 n list = [.i ((0 : Nat) : Int)] := rfl
   obtain ⟨g1, g2⟩ := xlX h1
   refine ⟨fun _ => by rw [hinit]; exact g1, ?_⟩
   unfold xzJ xxT
   rw [hn0, cond_false, hinit, g2]
   show _ = if (n : Int) = 0 then [] else goP (prF k) n list
   rw [if_neg (by omega)]
   exact h2
theorem xh6 (b : Bool) : (!!b) = b := by cases b <;> rfl
def xjq (gs : List (List Int)) : List (List Int) := gs.map fun g => [col g 0, col g 1]
theorem xBI {ow t delay : Int} {office ships list : List (List Int)} (ho : office.length ≤ 9223372036854775807) (hs : ships.length ≤ 9223372036854775807) (hl : list.length ≤ 9223372036854775807) (hd : xqQ ships) :
  xcS ow t delay office ships list ∧ xeg ow t delay office ships list = (if xi7 ow t delay office (xaA ships) list = true then xjq (xe4 office (xaA ships) t delay list) else []) ∧ xef ow t delay office ships list = if xi7 ow t delay office (xaA ships) list = true then 0 else 1 := by
 have hv := xfD ow office ho
 have hc := xi6 list hl
 obtain ⟨o1, o2, o3⟩ := xvW (ow := ow) (t := t) (delay := delay) (office := office) (list := list) hs hd
 unfold xcS xeg xkx xky xef xkv xkw
 rw [xs2 ho hl, xvr]
 cases h1 : xhG ow t delay office list with
 | false => exact ⟨⟨hv.1, fun _ => hc.1, fun h => by cases h⟩, rfl, rfl⟩
 | true =>
  cases h2 : risF 0 (xaA ships) with
  | false =>
   have e := o3 h2
   rw [e]
   exact ⟨⟨hv.1, fun _ => hc.1, fun _ => ⟨o1, fun h => by cases h⟩⟩, rfl, rfl⟩
  | true =>
   obtain ⟨e, er⟩ := o2 h2
   obtain ⟨p1, p2⟩ := xx1 (ow := ow) (t := t) (delay := delay) (office := office) hl hs hd h2
   obtain ⟨g1, g2⟩ := xvd (t := t) ho h1 h2
   rw [e, xh6, p2]
   rw [show (xap ow t delay office ships list).snd = (xap ow t delay office ships list).2 from rfl, er]
   cases h3 : list.any (xmE (xaA ships)) with
   | true => exact ⟨⟨hv.1, fun _ => hc.1, fun _ => ⟨o1, fun _ => ⟨p1, fun h => by cases h⟩⟩⟩, rfl, rfl⟩
   | false =>
    have hch : chF list = true := by
     unfold xhG at h1
     simp only [Bool.and_eq_true] at h1
     exact h1.1.1.1.2
    obtain ⟨k1, k2, k3⟩ := xmZ (office := office) (logs := xaA ships) (tm := t) (dl := delay) hch
    have hl200 := (xnb hch).1
    obtain ⟨q1, q2⟩ := xbZ (step := xca ow t delay office ships list) (xe4 office (xaA ships) t delay list) (fun i (s : List (List Int)) => [.i i, .r s]) (fun s x => .inl (s ++ [[col x 0, col x 1]])) (fun i s => s.length ≤ i) (fun s => (1, [.i ((xe4 office (xaA ships) t delay list).length : Nat), .r s])) 0
     (fun i s hi _ hI => by
      refine ⟨?_, fun s' hs' => by cases hs'; simp; exact hI⟩
      unfold xca xhx
      simp only [gi_z, gr_1, gr_z]
      rw [show (xap ow t delay office ships list).snd = (xap ow t delay office ships list).2 from rfl, er, g2, dlt hi, xaa (xat hi), xaa (xat hi), xaM hi, xde (by omega), xaa (by unfold xbl maxLen; simp only [List.length_cons, List.length_nil]; omega)]
      rfl)
     (fun i s hi _ => by
      have : i = (xe4 office (xaA ships) t delay list).length := by omega
      subst this
      unfold xca
      simp only [gi_z, gr_1, gr_z]
      rw [show (xap ow t delay office ships list).snd = (xap ow t delay office ships list).2 from rfl, er, g2, dnlt]) (s := []) (Nat.zero_le _)
    refine ⟨⟨hv.1, fun _ => hc.1, fun _ => ⟨o1, fun _ => ⟨p1, fun _ => ⟨g1, q1⟩⟩⟩⟩, ?_, rfl⟩
    have el : xkA ow t delay office ships list = xam (xca ow t delay office ships list) [.i ((0 : Nat) : Int), .r []] := rfl
    have ef : ∀ (l s : List (List Int)), l.foldl (fun s x => s ++ [[col x 0, col x 1]]) s = s ++ xjq l := by
     intro l
     induction l with
     | nil => intro s; simp [xjq]
     | cons x r ih => intro s; rw [List.foldl_cons, ih]; simp [xjq]
    rw [el, q2, List.drop_zero, xdV, ef, List.nil_append]
    show gr [U.i ((xe4 office (xaA ships) t delay list).length : Nat), U.r (xjq (xe4 office (xaA ships) t delay list))] 1 = xjq (xe4 office (xaA ships) t delay list)
    rw [gr_1, gr_z]
theorem xvf (list : List (List Int)) : (fewF list).length ≤ (byF 0 list).length := by
 have : ∀ n, (upto (xd4 list) n (byF 0 list)).length ≤ (byF 0 list).length := by
  intro n
  induction n with
  | zero => exact Nat.le_refl _
  | succ n ih =>
   have e : upto (xd4 list) (n + 1) (byF 0 list) = xd4 list n (upto (xd4 list) n (byF 0 list)) := rfl
   rw [e]
   generalize upto (xd4 list) n (byF 0 list) = b at *
   unfold xd4
   split
   ·split
    ·rename_i hb
     unfold xe6 at hb
     simp only [Bool.or_eq_true, Bool.and_eq_true, decide_eq_true_eq, beq_iff_eq] at hb
     rcases hb with hb | hb
     ·omega
     ·have := hb.1; omega
    ·exact ih
   ·exact ih
 exact this _
theorem xrX {ow t delay : Int} {office ships list : List (List Int)} (ho : office.length ≤ 9223372036854775807) (hs : ships.length ≤ 9223372036854775807) (hl : list.length ≤ 9223372036854775807) (hd : xqQ ships) (h90 : list.length ≤ 90 ∨ 200 < list.length) :
  xbw ow t delay office ships list ∧ xa7 ow t delay office ships list = (if xi7 ow t delay office (xaA ships) list = true then fewF (xe4 office (xaA ships) t delay list) else []) ∧
  xdd ow t delay office ships list = (if xi7 ow t delay office (xaA ships) list = true then prF 100 ((fewF (xe4 office (xaA ships) t delay list)).length : Nat) (xe4 office (xaA ships) t delay list) else []) ∧
  xbQ ow t delay office ships list = if xi7 ow t delay office (xaA ships) list = true then 0 else 1 := by
 have hv := xfD ow office ho
 have hc := xi6 list hl
 obtain ⟨o1, o2, o3⟩ := xvW (ow := ow) (t := t) (delay := delay) (office := office) (list := list) hs hd
 have es0 : xd2 ow t delay office ships list = xbg ow t delay office ships list := rfl
 have ei0 : xd3 ow t delay office ships list = xcb ow t delay office ships list := rfl
 have el0 : xaO ow t delay office ships list = xap ow t delay office ships list := rfl
 have es1 : xd0 ow t delay office ships list = xbf ow t delay office ships list := rfl
 have ei1 : xd1 ow t delay office ships list = xcX ow t delay office ships list := rfl
 have el1 : xbq ow t delay office ships list = xbG ow t delay office ships list := rfl
 unfold xbw xa7 xhW xhX xdd xhU xhV xbQ xhS xhT
 rw [es0, ei0, el0, es1, ei1, el1, xs2 ho hl, xvr]
 cases h1 : xhG ow t delay office list with
 | false => exact ⟨⟨hv.1, fun _ => hc.1, fun h => by cases h⟩, rfl, rfl, rfl⟩
 | true =>
  cases h2 : risF 0 (xaA ships) with
  | false =>
   have e := o3 h2
   rw [e]
   exact ⟨⟨hv.1, fun _ => hc.1, fun _ => ⟨o1, fun h => by cases h⟩⟩, rfl, rfl, rfl⟩
  | true =>
   obtain ⟨e, er⟩ := o2 h2
   obtain ⟨p1, p2⟩ := xx1 (ow := ow) (t := t) (delay := delay) (office := office) hl hs hd h2
   obtain ⟨g1, g2⟩ := xvd (t := t) ho h1 h2
   rw [e, xh6, p2]
   rw [show (xap ow t delay office ships list).snd = (xap ow t delay office ships list).2 from rfl, er]
   cases h3 : list.any (xmE (xaA ships)) with
   | true => exact ⟨⟨hv.1, fun _ => hc.1, fun _ => ⟨o1, fun _ => ⟨p1, fun h => by cases h⟩⟩⟩, rfl, rfl, rfl⟩
   | false =>
    have hch : chF list = true := by
     unfold xhG at h1
     simp only [Bool.and_eq_true] at h1
     exact h1.1.1.1.2
    obtain ⟨k1, k2, k3⟩ := xmZ (office := office) (logs := xaA ships) (tm := t) (dl := delay) hch
    have hl200 := (xnb hch).1
    have hl90 : list.length ≤ 90 := by omega
    obtain ⟨f1, f2⟩ := xt8 k1 (by omega)
    have hfl : (fewF (xe4 office (xaA ships) t delay list)).length < 100 := by
     have h0 := xvf (xe4 office (xaA ships) t delay list)
     have := xne 0 (xe4 office (xaA ships) t delay list)
     omega
    obtain ⟨x1, x2⟩ := xAl 100 (fewF (xe4 office (xaA ships) t delay list)).length _ hfl (by omega) k1 k2 (by omega)
    rw [g2, f2]
    exact ⟨⟨hv.1, fun _ => hc.1, fun _ => ⟨o1, fun _ => ⟨p1, fun _ => ⟨g1, f1, x1⟩⟩⟩⟩, rfl, x2, rfl⟩
end Go.Proofs.YtikhnofbbcmpeaaGreat
set_option linter.unusedVariables false
set_option maxRecDepth 100000
namespace Go.Proofs.YtikhnofbbcmpeaaGreat
open Go Go.Sy
def xit (cf : List Int → List Int → Int) : List (List Int) → Bool
 | x :: y :: r => decide (cf x y < 0) && xit cf (y :: r)
 | _ => true
theorem xis (cf : List Int → List Int → Int) : ∀ l : List (List Int), xit cf l = true ↔ ∀ i (h : i + 1 < l.length), cf l[i] l[i + 1] < 0
 | [] => ⟨fun _ i h => by simp at h, fun _ => rfl⟩
 | [x] => ⟨fun _ i h => by simp at h, fun _ => rfl⟩
 | x :: y :: r => by
  show (decide (cf x y < 0) && xit cf (y :: r)) = true ↔ _
  rw [Bool.and_eq_true, decide_eq_true_eq, xis cf (y :: r)]
  constructor
  ·rintro ⟨h1, h2⟩ i hi
   cases i with
   | zero => exact h1
   | succ i => exact h2 i (by simpa using hi)
  ·intro h
   exact ⟨h 0 (by simp), fun i hi => h (i + 1) (by simpa using hi)⟩
theorem xpP {step : List U → Option (Nat × List U)} {l : List (List Int)} {cf : List Int → List Int → Int} (m : Nat) (hs : ∀ i (hi : i + 1 < l.length), step [.b false, .i ((i + 1 : Nat) : Int)] = bif decide (cf l[i] l[i + 1] ≥ 0) then some (1, []) else some (0, [.b false, .i ((i + 1 + 1 : Nat) : Int)]))
  (he : ∀ n : Nat, ¬ ((n : Int) < (l.length : Int)) → step [.b false, .i n] = some (m + 2, [.b false, .i n])) {init : List U} (hi : init = [.b false, .i ((0 + 1 : Nat) : Int)]) :
  xax step init ∧ (bif (xam step init).fst.beq 1 then false else true) = xit cf l := by
 subst hi
 obtain ⟨h1, h2⟩ := xdC (step := step) (l.length - 1) (fun i => decide (cf (l.getD i []) (l.getD (i + 1) []) ≥ 0)) (fun i => [.b false, .i ((i + 1 : Nat) : Int)]) (fun i => []) 0 (m + 1) [.b false, .i ((l.length - 1 + 1 : Nat) : Int)]
  (fun i hi => by rw [hs i (by omega), xaX (by omega), xaX (by omega)]) (he _ (by omega))
 refine ⟨h1, ?_⟩
 rcases h2 with ⟨i, hi, hp, _, hg⟩ | ⟨hn, hg⟩
 ·rw [hg]
  rw [xaX (by omega), xaX (by omega)] at hp
  have : xit cf l = false := by
   cases hr : xit cf l with
   | false => rfl
   | true =>
    have := (xis cf l).1 hr i (by omega)
    have := of_decide_eq_true hp
    omega
  rw [this]; rfl
 ·rw [hg]
  have : xit cf l = true := (xis cf l).2 fun i hi => by
   have := hn i (by omega)
   rw [xaX (by omega), xaX hi] at this
   have := of_decide_eq_false this
   omega
  rw [this]; rfl
def canF (g o : List Int) : Bool :=
 bif col o 0 == 1 && (col o 1 == 0 && (col o 2 == col g 1 && true)) then col g 2 != 0 else bif col o 0 == 2 && (col o 1 == col g 0 && (col o 2 == 0 && true)) then col g 3 != 0 else col o 0 == 3 && (col o 1 == col g 0 && (col o 2 == col g 1 && true))
def keyB (g p : List Int) : Bool := col g 0 == col p 0 && (col g 1 == col p 1 && true)
def verL (om pr : List (List Int)) : List (List Int) → List (List Int) → Option (List (List Int))
 | named, [] => some named
 | named, g :: r => if (om.any (canF g)) = true then (if pr.any (keyB g) = true then (if named.any (fun h => !apF g h) = true then none else verL om pr (named ++ [g]) r) else verL om pr named r) else none
noncomputable def verF (gs om pr : List (List Int)) : Bool := om.length == pr.length && xit cfO om && xit cfG pr && (match verL om pr [] gs with | some named => named.length == pr.length | none => false)
section
variable {ow t delay : Int} {office ships list om pr : List (List Int)}
theorem xzs : xew ow t delay office ships list om pr = xbg ow t delay office ships list ∧ xex ow t delay office ships list om pr = xcb ow t delay office ships list ∧ xao ow t delay office ships list om pr = xap ow t delay office ships list ∧
  xeu ow t delay office ships list om pr = xbf ow t delay office ships list ∧ xev ow t delay office ships list om pr = xcX ow t delay office ships list ∧ xcu ow t delay office ships list om pr = xbG ow t delay office ships list := ⟨rfl, rfl, rfl, rfl, rfl, rfl⟩
theorem xAW (hom : om.length ≤ 9223372036854775807) : xax (xcr ow t delay office ships list om pr) (xet ow t delay office ships list om pr) ∧ (bif (xdP ow t delay office ships list om pr).fst.beq 1 then false else true) = xit cfO om :=
 xpP (cf := cfO) 1 (fun i hi => by
   unfold xcr xiT
   have hw : IntKind.i64.wrap (((i + 1 : Nat) : Int) - 1) = ((i : Nat) : Int) := by rw [xe3 (by omega)]; omega
   simp only [gi_1, gi_z, gb_z, hw]
   rw [decide_eq_true (by omega), cond_true, xaa (xat (by omega)), xaa (xat (by omega)), xaa (xat hi), xaa (xat hi), xaa (xhg _ _ _ _ _ _).1, xaM hi, xaM (show i < om.length by omega), xde (by omega)]
   rfl)
  (fun n hn => by
   unfold xcr
   simp only [gi_1, gi_z, gb_z]
   rw [decide_eq_false hn]; rfl) rfl
theorem xAV (hpr : pr.length ≤ 9223372036854775807) : xax (xcq ow t delay office ships list om pr) (xes ow t delay office ships list om pr) ∧ (bif (xe2 ow t delay office ships list om pr).fst.beq 1 then false else true) = xit cfG pr :=
 xpP (cf := cfG) 1 (fun i hi => by
   unfold xcq xiS
   have hw : IntKind.i64.wrap (((i + 1 : Nat) : Int) - 1) = ((i : Nat) : Int) := by rw [xe3 (by omega)]; omega
   simp only [gi_1, gi_z, gb_z, hw]
   rw [decide_eq_true (by omega), cond_true, xaa (xat (by omega)), xaa (xat (by omega)), xaa (xat hi), xaa (xat hi), xaa (xpk _ _ _ _).1, xaM hi, xaM (show i < pr.length by omega), xde (by omega)]
   rfl)
  (fun n hn => by
   unfold xcq
   simp only [gi_1, gi_z, gb_z]
   rw [decide_eq_false hn]; rfl) rfl
theorem xAU {gs : List (List Int)} (hg : xal ow t delay office (gr (xao ow t delay office ships list om pr).snd 3) list = gs) (hok : xuz gs) (hgs : gs.length ≤ 1000000) (hom : om.length ≤ 9223372036854775807) (hpr : pr.length ≤ 9223372036854775807) :
  xax (xbk ow t delay office ships list om pr) (xer ow t delay office ships list om pr) ∧
  (bif (xba ow t delay office ships list om pr).fst.beq 1 then false else bif (xba ow t delay office ships list om pr).fst.beq 2 then false else (↑(gr (xba ow t delay office ships list om pr).snd 3).length : Int) == (↑pr.length : Int)) = (match verL om pr [] gs with | some named => named.length == pr.length | none => false) := by
 have inner : ∀ (i : Nat) (hi : i < gs.length) (named : List (List Int)), named.length ≤ 9223372036854775807 →
   (xax (xcp ow t delay office ships list om pr [.b false, .i 0, .i i, .r named]) (xeq ow t delay office ships list om pr [.b false, .i 0, .i i, .r named]) ∧ decide ((bif (xe1 ow t delay office ships list om pr [.b false, .i 0, .i i, .r named]).fst.beq 1 then gi (xe1 ow t delay office ships list om pr [.b false, .i 0, .i i, .r named]).snd 0 else (-1 : Int)) ≥ 0) = om.any (canF gs[i])) ∧
   (xax (xco ow t delay office ships list om pr [.b false, .i 0, .i i, .r named]) (xep ow t delay office ships list om pr [.b false, .i 0, .i i, .r named]) ∧ decide ((bif (xe0 ow t delay office ships list om pr [.b false, .i 0, .i i, .r named]).fst.beq 1 then gi (xe0 ow t delay office ships list om pr [.b false, .i 0, .i i, .r named]).snd 0 else (-1 : Int)) ≥ 0) = pr.any (keyB gs[i])) ∧
   (xax (xcn ow t delay office ships list om pr [.b false, .i 0, .i i, .r named]) (xeo ow t delay office ships list om pr [.b false, .i 0, .i i, .r named]) ∧ decide ((bif (xeZ ow t delay office ships list om pr [.b false, .i 0, .i i, .r named]).fst.beq 1 then gi (xeZ ow t delay office ships list om pr [.b false, .i 0, .i i, .r named]).snd 0 else (-1 : Int)) ≥ 0) = named.any fun h => !apF gs[i] h) := by
  intro i hi named hnm
  refine ⟨xji (l := om) (p := canF gs[i]) 1 (fun j hj => ?_) ?_ rfl, xji (l := pr) (p := keyB gs[i]) 1 (fun j hj => ?_) ?_ rfl, xji (l := named) (p := fun h => !apF gs[i] h) 1 (fun j hj => ?_) ?_ rfl⟩
  ·unfold xcp
   simp only [gi_2, gi_1, gi_z]
   rw [hg, dlt hj, xaa (xat hj), xaa (xat hj), xaM hj, xaM hi, xde (by omega)]
   rfl
  ·unfold xcp
   simp only [gi_1, gi_z, dnlt]
  ·unfold xco
   simp only [gi_2, gi_1, gi_z]
   rw [hg, dlt hj, xaa (xat hj), xaa (xat hj), xaM hj, xaM hi, xde (by omega)]
   rfl
  ·unfold xco
   simp only [gi_1, gi_z, dnlt]
  ·unfold xcn
   simp only [gi_2, gi_1, gi_z, gr_3, gr_z]
   rw [hg, dlt hj, xaa (xat hj), xaa (xat hj), xaM hj, xaM hi, xde (by omega)]
   rfl
  ·unfold xcn
   simp only [gi_1, gi_z, gr_3, gr_z, dnlt]
 let f : List (List Int) → List Int → List (List Int) ⊕ (Nat × List U) := fun named g => if (om.any (canF g)) = true then (if pr.any (keyB g) = true then (if named.any (fun h => !apF g h) = true then .inr (1, []) else .inl (named ++ [g])) else .inl named) else .inr (0, [])
 obtain ⟨h1, h2⟩ := xbZ (step := xbk ow t delay office ships list om pr) gs (fun i (s : List (List Int)) => [.b false, .i 0, .i i, .r s]) f (fun i s => s.length ≤ i) (fun s => (4, [.b false, .i 0, .i gs.length, .r s])) 0
  (fun i s hi _ hI => by
   obtain ⟨⟨a1, a2⟩, ⟨b1, b2⟩, ⟨c1, c2⟩⟩ := inner i hi s (by omega)
   refine ⟨?_, fun s' hs' => ?_⟩
   ·have hn : [gs[i].getD 0 0, gs[i].getD 1 0, bif gs[i].getD 2 0 != 0 then 1 else 0, bif gs[i].getD 3 0 != 0 then 1 else 0] = gs[i] := hok _ (List.getElem_mem hi)
    have hn4 : xeY ow t delay office ships list om pr [.b false, .i 0, .i i, .r s] = gs[i] := by
     unfold xeY xiR
     simp only [gi_2, gi_1, gi_z]
     rw [hg, xaM hi]
     exact hn
    unfold xbk
    simp only [gi_2, gi_1, gi_z, gb_z, gr_3, gr_z]
    rw [a2, b2, c2, hn4, hg, dlt hi, xaa (xat hi), xaa (xat hi), xaa a1, xaa b1, xaa c1, xde (by omega), xaa (by unfold xbl maxLen; simp only [List.length_cons, List.length_nil]; omega)]
    show _ = goOn _ (if (om.any (canF gs[i])) = true then (if pr.any (keyB gs[i]) = true then (if s.any (fun h => !apF gs[i] h) = true then .inr (1, []) else .inl (s ++ [gs[i]])) else .inl s) else .inr (0, []))
    cases om.any (canF gs[i])
    ·rw [if_neg (by decide)]; rfl
    ·rw [if_pos rfl]
     cases pr.any (keyB gs[i])
     ·rw [if_neg (by decide)]; rfl
     ·rw [if_pos rfl]
      cases s.any fun h => !apF gs[i] h
      ·rw [if_neg (by decide)]; rfl
      ·rw [if_pos rfl]; rfl
   ·have hs' : (if (om.any (canF gs[i])) = true then (if pr.any (keyB gs[i]) = true then (if s.any (fun h => !apF gs[i] h) = true then .inr (1, []) else .inl (s ++ [gs[i]])) else .inl s) else .inr (0, []) : List (List Int) ⊕ (Nat × List U)) = .inl s' := hs'
    split at hs'
    ·split at hs'
     ·split at hs'
      ·cases hs'
      ·cases hs'; simp; omega
     ·cases hs'; omega
    ·cases hs')
  (fun i s hi _ => by
   have : i = gs.length := by omega
   subst this
   unfold xbk
   simp only [gi_2, gi_1, gi_z, gb_z, gr_3, gr_z]
   rw [hg, dnlt]) (s := []) (Nat.zero_le _)
 refine ⟨h1, ?_⟩
 have el : xba ow t delay office ships list om pr = xam (xbk ow t delay office ships list om pr) [.b false, .i 0, .i ((0 : Nat) : Int), .r []] := rfl
 rw [el, h2, List.drop_zero]
 have run : ∀ (r : List (List Int)) (named : List (List Int)), (bif (endL (fun s : List (List Int) => (4, [.b false, .i 0, .i gs.length, .r s])) (runL f named r)).1.beq 1 then false else bif (endL (fun s : List (List Int) => (4, [.b false, .i 0, .i gs.length, .r s])) (runL f named r)).1.beq 2 then false else (↑(gr (endL (fun s : List (List Int) => (4, [.b false, .i 0, .i gs.length, .r s])) (runL f named r)).2 3).length : Int) == (↑pr.length : Int)) = (match verL om pr named r with | some named => named.length == pr.length | none => false) := by
  intro r
  induction r with
  | nil =>
   intro named
   show ((↑(gr [.b false, .i 0, .i gs.length, .r named] 3).length : Int) == (↑pr.length : Int)) = (named.length == pr.length)
   rw [gr_3, gr_z]
   by_cases h : named.length = pr.length
   ·rw [h]; simp
   ·have h1 : ¬ (named.length : Int) = (pr.length : Int) := by omega
    rw [bne h1]
    simpa using h
  | cons g r ih =>
   intro named
   have ef : f named g = if (om.any (canF g)) = true then (if pr.any (keyB g) = true then (if named.any (fun h => !apF g h) = true then .inr (1, []) else .inl (named ++ [g])) else .inl named) else .inr (0, []) := rfl
   unfold runL verL
   by_cases h1 : om.any (canF g) = true
   ·rw [if_pos h1] at ef
    rw [if_pos h1]
    by_cases h2 : pr.any (keyB g) = true
    ·rw [if_pos h2] at ef
     rw [if_pos h2]
     by_cases h3 : named.any (fun h => !apF g h) = true
     ·rw [if_pos h3] at ef
      rw [if_pos h3, ef]; rfl
     ·rw [if_neg h3] at ef
      rw [if_neg h3, ef]
      exact ih _
    ·rw [if_neg h2] at ef
     rw [if_neg h2, ef]
     exact ih _
   ·rw [if_neg h1] at ef
    rw [if_neg h1, ef]; rfl
 exact run gs []
theorem xzp (ho : office.length ≤ 9223372036854775807) (hs : ships.length ≤ 9223372036854775807) (hl : list.length ≤ 9223372036854775807) (hd : xqQ ships) (hom : om.length ≤ 9223372036854775807) (hpr : pr.length ≤ 9223372036854775807) :
  xb9 ow t delay office ships list om pr ∧ xcR ow t delay office ships list om pr = (xi7 ow t delay office (xaA ships) list && verF (xe4 office (xaA ships) t delay list) om pr) ∧ xdp ow t delay office ships list om pr = if xi7 ow t delay office (xaA ships) list = true then 0 else 1 := by
 have hv := xfD ow office ho
 have hc := xi6 list hl
 obtain ⟨o1, o2, o3⟩ := xvW (ow := ow) (t := t) (delay := delay) (office := office) (list := list) hs hd
 obtain ⟨es0, ei0, el0, es1, ei1, el1⟩ := xzs (ow := ow) (t := t) (delay := delay) (office := office) (ships := ships) (list := list) (om := om) (pr := pr)
 obtain ⟨r1, r2⟩ := xAW (ow := ow) (t := t) (delay := delay) (office := office) (ships := ships) (list := list) (pr := pr) hom
 obtain ⟨s1, s2⟩ := xAV (ow := ow) (t := t) (delay := delay) (office := office) (ships := ships) (list := list) (om := om) hpr
 have elen : ((om.length : Int) != (pr.length : Int)) = !(om.length == pr.length) := by
  by_cases h : om.length = pr.length
  ·rw [h]; simp
  ·have h1 : ¬ (om.length : Int) = (pr.length : Int) := by omega
   show (!((om.length : Int) == (pr.length : Int))) = _
   rw [bne h1]
   simpa using h
 unfold xb9 xcR xdp xiO xiP xiQ
 rw [r2, s2, elen]
 rw [es0, ei0, el0, es1, ei1, el1, xs2 ho hl, xvr]
 cases h1 : xhG ow t delay office list with
 | false => exact ⟨⟨hv.1, fun _ => hc.1, fun h => by cases h⟩, rfl, rfl⟩
 | true =>
  cases h2 : risF 0 (xaA ships) with
  | false =>
   have e := o3 h2
   rw [e]
   exact ⟨⟨hv.1, fun _ => hc.1, fun _ => ⟨o1, fun h => by cases h⟩⟩, rfl, rfl⟩
  | true =>
   obtain ⟨e, er⟩ := o2 h2
   obtain ⟨p1, p2⟩ := xx1 (ow := ow) (t := t) (delay := delay) (office := office) hl hs hd h2
   obtain ⟨g1, g2⟩ := xvd (t := t) ho h1 h2
   rw [e, xh6, p2]
   have er' : gr (xap ow t delay office ships list).snd 3 = ships.map rowO := er
   cases h3 : list.any (xmE (xaA ships)) with
   | true => exact ⟨⟨hv.1, fun _ => hc.1, fun _ => ⟨o1, fun _ => ⟨p1, fun h => by cases h⟩⟩⟩, rfl, rfl⟩
   | false =>
    have hch : chF list = true := by
     unfold xhG at h1
     simp only [Bool.and_eq_true] at h1
     exact h1.1.1.1.2
    obtain ⟨k1, k2, k3⟩ := xmZ (office := office) (logs := xaA ships) (tm := t) (dl := delay) hch
    have hl200 := (xnb hch).1
    obtain ⟨v1, v2⟩ := xAU (ow := ow) (t := t) (delay := delay) (office := office) (ships := ships) (list := list) (om := om) (pr := pr) (gs := xe4 office (xaA ships) t delay list) (by rw [el0, er', g2]) k2 (by omega) hom hpr
    rw [er']
    refine ⟨⟨hv.1, fun _ => hc.1, fun _ => ⟨o1, fun _ => ⟨p1, fun _ => ⟨fun _ => r1, fun _ => s1, fun _ => ⟨g1, v1⟩⟩⟩⟩⟩, ?_, ?_⟩
    ·unfold verF
     rw [← v2]
     cases (om.length == pr.length) <;> cases xit cfO om <;> cases xit cfG pr <;> rfl
    ·cases (om.length == pr.length) <;> cases xit cfO om <;> cases xit cfG pr <;> cases (xba ow t delay office ships list om pr).fst.beq 1 <;> cases (xba ow t delay office ships list om pr).fst.beq 2 <;> rfl
end
end Go.Proofs.YtikhnofbbcmpeaaGreat
set_option linter.unusedVariables false
set_option maxRecDepth 100000
namespace Go.Proofs.YtikhnofbbcmpeaaGreat
open Go Go.Sy
def xlc (eq : List Int → List Int → Bool) : List (List Int) → List (List Int) → Bool
 | [], [] => true
 | x :: r, y :: r' => eq x y && xlc eq r r'
 | _, _ => false
theorem xmk {eq : List Int → List Int → Bool} : ∀ {a b : List (List Int)}, a.length ≠ b.length → xlc eq a b = false
 | [], [], h => absurd rfl h
 | [], _ :: _, _ => rfl
 | _ :: _, [], _ => rfl
 | x :: r, y :: r', h => by
  unfold xlc
  rw [xmk (by simpa using h), Bool.and_false]
theorem xpM {eq : List Int → List Int → Bool} : ∀ {a b : List (List Int)}, a.length = b.length → (xlc eq a b = true ↔ ∀ i (h : i < a.length) (h' : i < b.length), eq a[i] b[i] = true)
 | [], [], _ => ⟨(fun _ i h => by cases h), fun _ => rfl⟩
 | x :: r, y :: r', h => by
  show (eq x y && xlc eq r r') = true ↔ _
  rw [Bool.and_eq_true, xpM (by simpa using h)]
  constructor
  ·rintro ⟨h1, h2⟩ i hi hi'
   cases i with
   | zero => exact h1
   | succ i => exact h2 i (by simpa using hi) (by simpa using hi')
  ·intro h
   exact ⟨h 0 (by simp) (by simp), fun i hi hi' => h (i + 1) (by simpa using hi) (by simpa using hi')⟩
theorem xpL {step : List U → Option (Nat × List U)} {a b : List (List Int)} {eq : List Int → List Int → Bool} (m : Nat) (hlen : a.length = b.length)
  (hs : ∀ i (h : i < a.length) (h' : i < b.length), step [.b false, .i i] = bif eq a[i] b[i] then some (0, [.b false, .i ((i + 1 : Nat) : Int)]) else some (1, []))
  (he : step [.b false, .i a.length] = some (m + 2, [.b false, .i a.length])) {init : List U} (hi : init = [.b false, .i ((0 : Nat) : Int)]) :
  xax step init ∧ (bif (xam step init).fst.beq 1 then false else true) = xlc eq a b := by
 subst hi
 obtain ⟨h1, h2⟩ := xdC (step := step) a.length (fun i => !eq (a.getD i []) (b.getD i [])) (fun i => [.b false, .i i]) (fun i => []) 0 (m + 1) [.b false, .i a.length]
  (fun i hi => by
   rw [hs i hi (by omega), xaX hi, xaX (by omega)]
   cases eq a[i] b[i] <;> rfl) he
 refine ⟨h1, ?_⟩
 rcases h2 with ⟨i, hi, hp, _, hg⟩ | ⟨hn, hg⟩
 ·rw [hg]
  have : xlc eq a b = false := by
   cases hr : xlc eq a b with
   | false => rfl
   | true =>
    have h := (xpM hlen).1 hr i hi (by omega)
    rw [xaX hi, xaX (by omega), h] at hp
    cases hp
  rw [this]; rfl
 ·rw [hg]
  have : xlc eq a b = true := (xpM hlen).2 fun i h h' => by
   have := hn i h
   rw [xaX h, xaX h'] at this
   simpa using this
  rw [this]; rfl
theorem lenI {a b : List (List Int)} : ((a.length : Int) != (b.length : Int)) = !decide (a.length = b.length) := by
 by_cases h : a.length = b.length
 ·rw [h]; simp
 ·have h1 : ¬ (a.length : Int) = (b.length : Int) := by omega
  show (!((a.length : Int) == (b.length : Int))) = _
  rw [bne h1, decide_eq_false h]
def eq1 (x y : List Int) : Bool := col x 0 == col y 0
def eq2 (x y : List Int) : Bool := col x 0 == col y 0 && (col x 1 == col y 1 && true)
def eq3 (x y : List Int) : Bool := col x 0 == col y 0 && (col x 1 == col y 1 && (col x 2 == col y 2 && true))
theorem xvG (a b : List (List Int)) (ha : a.length ≤ 9223372036854775807) : xdA a b ∧ xdT a b = xlc eq1 a b := by
 unfold xdA xdT
 rw [lenI]
 by_cases hlen : a.length = b.length
 ·obtain ⟨h1, h2⟩ := xpL (step := xds a b) (a := a) (b := b) (eq := eq1) 1 hlen (fun i h h' => by
    unfold xds
    simp only [gi_1, gi_z, gb_z]
    rw [dlt h, xaa (xat h), xaa (xat h), xaa (xat h'), xaa (xat h'), xaM h, xaM h', xde (by omega)]
    show (bif !(eq1 a[i] b[i]) then _ else _) = _
    cases eq1 a[i] b[i] <;> rfl)
   (by
    unfold xds
    simp only [gi_1, gi_z, gb_z, dnlt]) (init := xfL a b) rfl
  rw [decide_eq_true hlen]
  exact ⟨fun _ => h1, h2⟩
 ·rw [decide_eq_false hlen, xmk hlen]
  exact ⟨(fun h => by cases h), rfl⟩
theorem xjB (a b : List (List Int)) (ha : a.length ≤ 9223372036854775807) : xbY a b ∧ xbI a b = xlc eq2 a b := by
 unfold xbY xbI
 rw [lenI]
 by_cases hlen : a.length = b.length
 ·obtain ⟨h1, h2⟩ := xpL (step := xci a b) (a := a) (b := b) (eq := eq2) 1 hlen (fun i h h' => by
    unfold xci
    simp only [gi_1, gi_z, gb_z]
    rw [dlt h, xaa (xat h), xaa (xat h), xaa (xat h'), xaa (xat h'), xaM h, xaM h', xde (by omega)]
    show (bif !(eq2 a[i] b[i]) then _ else _) = _
    cases eq2 a[i] b[i] <;> rfl)
   (by
    unfold xci
    simp only [gi_1, gi_z, gb_z, dnlt]) (init := xej a b) rfl
  rw [decide_eq_true hlen]
  exact ⟨fun _ => h1, h2⟩
 ·rw [decide_eq_false hlen, xmk hlen]
  exact ⟨(fun h => by cases h), rfl⟩
theorem xuy (a b : List (List Int)) (ha : a.length ≤ 9223372036854775807) : xby a b ∧ xbN a b = xlc eq3 a b := by
 unfold xby xbN
 rw [lenI]
 by_cases hlen : a.length = b.length
 ·obtain ⟨h1, h2⟩ := xpL (step := xbu a b) (a := a) (b := b) (eq := eq3) 1 hlen (fun i h h' => by
    unfold xbu
    simp only [gi_1, gi_z, gb_z]
    rw [dlt h, xaa (xat h), xaa (xat h), xaa (xat h'), xaa (xat h'), xaM h, xaM h', xde (by omega)]
    show (bif !(eq3 a[i] b[i]) then _ else _) = _
    cases eq3 a[i] b[i] <;> rfl)
   (by
    unfold xbu
    simp only [gi_1, gi_z, gb_z, dnlt]) (init := xdf a b) rfl
  rw [decide_eq_true hlen]
  exact ⟨fun _ => h1, h2⟩
 ·rw [decide_eq_false hlen, xmk hlen]
  exact ⟨(fun h => by cases h), rfl⟩
def addE (o t k n : Int) (l : List (List Int)) : Int :=
 if (valF o l && lnF t k n) = false then 1 else if ownF o k = false then 12 else if 200 ≤ l.length then 2 else if t < xnH 0 (-1) l then 13 else if (k == 4 && !onF 10000000 true l) = true then 6 else if (k == 5 && onF 10000000 true l) = true then 6 else 0
def addL (o t k n : Int) (l : List (List Int)) : List (List Int) := if addE o t k n l = 0 then l ++ [[t, k, n, sumF o (xnH 3 0 l) t k n]] else []
theorem xDm (o t k n : Int) (l : List (List Int)) (hl : l.length ≤ 9223372036854775807) : xeP o t k n l ∧ xfY o t k n l = addL o t k n l ∧ xfX o t k n l = (if addE o t k n l = 0 then o else 0) ∧ xfW o t k n l = addE o t k n l := by
 obtain ⟨v1, v2⟩ := xfD o l hl
 obtain ⟨o1, o2⟩ := xx5 o 10000000 l hl
 obtain ⟨l1, l2, l3⟩ := xu3 o l hl
 have hQ : decide ((l.length : Int) ≥ (200 : Int)) = false → (xbF o (xa3 o l) t k n (0 : Int)) ∧ ((((l = []) → ((True) ∧ (([] ++ l = []) ∧ (True)))) ∧ (xbl 32 (0 + l.length))) ∧ (xbl 32 (([] ++ l).length + [[t, k, n, xb1 o (xa3 o l) t k n (0 : Int)]].length))) := fun h => by
  have := of_decide_eq_false h
  refine ⟨(xvK _ _ _ _ _ _).1, ⟨fun h => ⟨trivial, by rw [h]; rfl, trivial⟩, by unfold xbl maxLen; omega⟩, ?_⟩
  unfold xbl maxLen
  simp only [List.nil_append, List.length_cons, List.length_nil]
  omega
 refine ⟨⟨l1, o1, v1, fun h1 h2 => ?_, fun _ _ _ h4 _ => ⟨fun a b => ?_, fun _ _ => hQ h4⟩⟩, ?_⟩
 ·rw [h1] at h2; cases h2
 ·rw [a] at b; cases b
 ·unfold xfY xid xlw xlx xfX xlu xlv xic xfW xls xlt xib addL addE
  rw [v2, o2, l2, l3, xyo, xAr, (xvK _ _ _ _ _ _).2]
  have e200 : decide ((l.length : Int) ≥ (200 : Int)) = decide (200 ≤ l.length) := decide_eq_decide.2 (by omega)
  rw [e200]
  cases hv : valF o l
  ·simp
  ·cases hln : lnF t k n
   ·simp
   ·cases hown : ownF o k
    ·simp
    ·by_cases h2 : 200 ≤ l.length
     ·simp [h2]
     ·by_cases h3 : t < xnH 0 (-1) l
      ·simp [h2, h3]
      ·cases h4 : (k == 4 && !onF 10000000 true l)
       ·cases h5 : (k == 5 && onF 10000000 true l)
        ·simp [h2, h3]
        ·simp [h2, h3]
       ·simp [h2, h3]
theorem xz9 (o t k n : Int) (l : List (List Int)) : (addL o t k n l).length ≤ l.length + 1 := by
 unfold addL
 by_cases h : addE o t k n l = 0
 ·rw [if_pos h]; simp
 ·rw [if_neg h]; simp
def logF : Int × List (List Int) → List (List Int) → Int × List (List Int)
 | s, [] => s
 | s, x :: r => if addE s.1 (col x 0) (col x 1) (col x 2) s.2 = 0 then logF (s.1, addL s.1 (col x 0) (col x 1) (col x 2) s.2) r else (0, [])
theorem xv6 (o : Int) (lines : List (List Int)) (hl : lines.length ≤ 1000000) : xbJ o lines ∧ (xac o lines, xad o lines) = logF (o, []) lines := by
 let f : Int × List (List Int) → List Int → (Int × List (List Int)) ⊕ (Nat × List U) := fun s x => if addE s.1 (col x 0) (col x 1) (col x 2) s.2 = 0 then .inl (s.1, addL s.1 (col x 0) (col x 1) (col x 2) s.2) else .inr (0, [.i s.1, .r s.2])
 obtain ⟨h1, h2⟩ := xbZ (step := xda o lines) lines (fun i (s : Int × List (List Int)) => [.i i, .i s.1, .r s.2]) f (fun i s => s.2.length ≤ i) (fun s => (2, [.i lines.length, .i s.1, .r s.2])) 0
  (fun i s hi _ hI => by
   obtain ⟨a1, a2, a3, a4⟩ := xDm s.1 (col lines[i] 0) (col lines[i] 1) (col lines[i] 2) s.2 (by omega)
   refine ⟨?_, fun s' hs' => ?_⟩
   ·unfold xda xoy xox xow
    simp only [gi_z, gi_1, gr_2, gr_1, gr_z, dlt hi, xaa (xat hi), xaM hi, xde (show i < 9223372036854775807 by omega)]
    rw [xaa a1, a2, a3, a4]
    show _ = goOn _ (if addE s.1 (col lines[i] 0) (col lines[i] 1) (col lines[i] 2) s.2 = 0 then .inl (s.1, addL s.1 (col lines[i] 0) (col lines[i] 1) (col lines[i] 2) s.2) else .inr (0, [.i s.1, .r s.2]))
    by_cases h : addE s.1 (col lines[i] 0) (col lines[i] 1) (col lines[i] 2) s.2 = 0
    ·rw [if_pos h, if_pos h, h]; rfl
    ·rw [if_neg h, if_neg h]
     have : (addE s.1 (col lines[i] 0) (col lines[i] 1) (col lines[i] 2) s.2 != 0) = true := by simpa using h
     rw [this]; rfl
   ·have hs' : (if addE s.1 (col lines[i] 0) (col lines[i] 1) (col lines[i] 2) s.2 = 0 then .inl (s.1, addL s.1 (col lines[i] 0) (col lines[i] 1) (col lines[i] 2) s.2) else .inr (0, [.i s.1, .r s.2]) : (Int × List (List Int)) ⊕ (Nat × List U)) = .inl s' := hs'
    split at hs'
    ·cases hs'
     exact Nat.le_trans (xz9 _ _ _ _ _) (by omega)
    ·cases hs')
  (fun i s hi _ => by
   have : i = lines.length := by omega
   subst this
   unfold xda
   simp only [gi_z, gi_1, gr_2, gr_1, gr_z, dnlt]) (s := (o, [])) (Nat.zero_le _)
 refine ⟨h1, ?_⟩
 have el : xgH o lines = xam (xda o lines) [.i ((0 : Nat) : Int), .i o, .r []] := rfl
 unfold xac xad
 rw [el, h2, List.drop_zero]
 have run : ∀ (r : List (List Int)) (s : Int × List (List Int)), ((bif (endL (fun s : Int × List (List Int) => (2, [.i lines.length, .i s.1, .r s.2])) (runL f s r)).1.beq 1 then (0 : Int) else gi (endL (fun s : Int × List (List Int) => (2, [.i lines.length, .i s.1, .r s.2])) (runL f s r)).2 1), (bif (endL (fun s : Int × List (List Int) => (2, [.i lines.length, .i s.1, .r s.2])) (runL f s r)).1.beq 1 then [] else gr (endL (fun s : Int × List (List Int) => (2, [.i lines.length, .i s.1, .r s.2])) (runL f s r)).2 2)) = logF s r := by
  intro r
  induction r with
  | nil => intro s; rfl
  | cons x r ih =>
   intro s
   have ef : f s x = if addE s.1 (col x 0) (col x 1) (col x 2) s.2 = 0 then .inl (s.1, addL s.1 (col x 0) (col x 1) (col x 2) s.2) else .inr (0, [.i s.1, .r s.2]) := rfl
   unfold runL logF
   by_cases h : addE s.1 (col x 0) (col x 1) (col x 2) s.2 = 0
   ·rw [if_pos h] at ef
    rw [if_pos h, ef]
    exact ih _
   ·rw [if_neg h] at ef
    rw [if_neg h, ef]; rfl
 exact run lines (o, [])
end Go.Proofs.YtikhnofbbcmpeaaGreat
set_option linter.unusedVariables false
set_option maxRecDepth 100000
namespace Go.Proofs.YtikhnofbbcmpeaaGreat
open Go Go.Sy
def cmp3 (x y : List Int) : Int := if col x 0 < col y 0 then -1 else if col y 0 < col x 0 then 1 else if col x 1 < col y 1 then -1 else if col y 1 < col x 1 then 1 else if col x 2 < col y 2 then -1 else if col y 2 < col x 2 then 1 else 0
def cmp2 (x y : List Int) : Int := if col x 0 < col y 0 then -1 else if col y 0 < col x 0 then 1 else if col x 1 < col y 1 then -1 else if col y 1 < col x 1 then 1 else 0
theorem xp0 (a b : Int) (r : List Int) (e : Int) (h : orL r = e) : orL ((if a < b then -1 else if b < a then 1 else 0) :: r) = if a < b then -1 else if b < a then 1 else e := by
 unfold orL
 by_cases h1 : a < b
 ·rw [if_pos h1, if_neg (by decide), if_pos h1]
 ·rw [if_neg h1, if_neg h1]
  by_cases h2 : b < a
  ·rw [if_pos h2, if_neg (by decide), if_pos h2]
  ·rw [if_neg h2, if_pos rfl, if_neg h2, h]
theorem xws : cfO = cmp3 := by
 funext x y
 unfold cfO cmp3
 rw [(xhg _ _ _ _ _ _).2]
 simp only [cmpC]
 exact xp0 _ _ _ _ (xp0 _ _ _ _ (xp0 _ _ _ _ rfl))
theorem xCq : cfG = cmp2 := by
 funext x y
 unfold cfG cmp2
 rw [(xpk _ _ _ _).2]
 simp only [cmpC]
 exact xp0 _ _ _ _ (xp0 _ _ _ _ rfl)
def xpf : List (List Int) → List (List Int) → Int
 | [], [] => 0
 | [], _ :: _ => -1
 | _ :: _, [] => 1
 | x :: r, y :: r' => if cmp3 x y = 0 then xpf r r' else cmp3 x y
theorem xvn : ∀ x y, cmpL x y = xpf x y
 | [], [] => rfl
 | [], _ :: _ => rfl
 | _ :: _, [] => rfl
 | x :: r, y :: r' => by
  unfold cmpL xpf
  rw [xws, xvn r r']
def xs4 (x b : List (List Int)) : Bool := decide (x.length < b.length) || (x.length == b.length && decide (xpf x b < 0))
theorem xur : xe6 = xs4 := by funext x b; unfold xe6 xs4; rw [xvn]
def xsP (list : List (List Int)) (i : Nat) (b : List (List Int)) : List (List Int) := if subB i (allF list) = true then (if xs4 (byF i list) b = true then byF i list else b) else b
def fewC (list : List (List Int)) : List (List Int) := upto (xsP list) (allF list + 1) (byF 0 list)
theorem xvg : fewF = fewC := by
 funext list
 unfold fewF fewC
 have : xd4 list = xsP list := by funext i b; unfold xd4 xsP; rw [xur]
 rw [this]
def goC (k : Int → List (List Int) → List (List Int)) (n : Int) : List (List Int) → List (List Int)
 | [] => []
 | g :: r => if ((fewC (r.filter (apF g))).length : Int) = n - 1 then [col g 0, col g 1] :: k (n - 1) (r.filter (apF g)) else goC k n r
def prC : Nat → Int → List (List Int) → List (List Int)
 | 0, _, _ => []
 | m + 1, n, list => if n = 0 then [] else goC (prC m) n list
theorem xAG (k : Int → List (List Int) → List (List Int)) (n : Int) : ∀ l, goP k n l = goC k n l
 | [] => rfl
 | g :: r => by unfold goP goC; rw [xvg, xAG k n r]
theorem xAq : ∀ m n l, prF m n l = prC m n l
 | 0, _, _ => rfl
 | m + 1, n, l => by
  unfold prF prC
  rw [xAG, show prF m = prC m from by funext n l; exact xAq m n l]
def verC (gs om pr : List (List Int)) : Bool := om.length == pr.length && xit cmp3 om && xit cmp2 pr && (match verL om pr [] gs with | some named => named.length == pr.length | none => false)
theorem xAT (gs om pr : List (List Int)) : verF gs om pr = verC gs om pr := by unfold verF verC; rw [xws, xCq] <;> rfl
def hA0 : List (List Int) := (logF (0, []) [[10, 1, 7]]).2
def hA1 : List (List Int) := (logF (1, []) [[12, 3, 7]]).2
def hA3 : List (List Int) := (logF (3, []) [[5, 4, 0], [20, 5, 0], [40, 2, 9]]).2
noncomputable def xga : List (List Int) := [[1, encL hA1], [2, encL []], [3, encL hA3]]
def xw8 : List ALog := [(1, hA1), (2, []), (3, hA3)]
def hch : List (List Int) := [[1, 7, 10], [2, 7, 10], [3, 7, 10], [2, 9, 30], [3, 9, 30]]
theorem xgT : xbJ 0 [[10, 1, 7]] ∧ xac 0 [[10, 1, 7]] = 0 ∧ xad 0 [[10, 1, 7]] = hA0 := by
 obtain ⟨h1, h2⟩ := xv6 0 [[10, 1, 7]] (by decide)
 exact ⟨h1, (congrArg Prod.fst h2).trans (by decide +kernel), congrArg Prod.snd h2⟩
theorem xBn : xbJ 1 [[12, 3, 7]] ∧ xac 1 [[12, 3, 7]] = 1 ∧ xad 1 [[12, 3, 7]] = hA1 := by
 obtain ⟨h1, h2⟩ := xv6 1 [[12, 3, 7]] (by decide)
 exact ⟨h1, (congrArg Prod.fst h2).trans (by decide +kernel), congrArg Prod.snd h2⟩
theorem xBm : xbJ 2 [] ∧ xac 2 [] = 2 ∧ xad 2 [] = [] := by
 obtain ⟨h1, h2⟩ := xv6 2 [] (by decide)
 exact ⟨h1, congrArg Prod.fst h2, congrArg Prod.snd h2⟩
theorem xBl : xbJ 3 xag ∧ xac 3 xag = 3 ∧ xad 3 xag = hA3 := by
 obtain ⟨h1, h2⟩ := xv6 3 [[5, 4, 0], [20, 5, 0], [40, 2, 9]] (by decide)
 exact ⟨h1, (congrArg Prod.fst h2).trans (by decide +kernel), congrArg Prod.snd h2⟩
theorem xq9 : [xaC, [xac (2 : Int) [], encL (xad (2 : Int) [])], [xac (3 : Int) xag, encL (xad (3 : Int) xag)]] = xga := by
 unfold xaC
 rw [xBn.2.1, xBn.2.2, xBm.2.1, xBm.2.2, xBl.2.1, xBl.2.2]
 rfl
theorem xjp : xaA xga = xw8 := by
 show [((1 : Int), decL (encL hA1)), (2, decL (encL [])), (3, decL (encL hA3))] = _
 rw [xfr, xfr, xfr]
 rfl
theorem xu8 : xqQ xga := by
 intro x hx
 have hx : x = [1, encL hA1] ∨ x = [2, encL []] ∨ x = [3, encL hA3] := by simpa [xga] using hx
 have l1 : hA1.length ≤ 9223372036854775807 := by decide +kernel
 have l3 : hA3.length ≤ 9223372036854775807 := by decide +kernel
 rcases hx with rfl | rfl | rfl
 ·show (decL (encL hA1)).length ≤ _
  rw [xfr]; exact l1
 ·show (decL (encL [])).length ≤ _
  rw [xfr]; decide
 ·show (decL (encL hA3)).length ≤ _
  rw [xfr]; exact l3
theorem xu9 : xi7 0 50 5 hA0 xw8 hch = true := by decide +kernel
theorem hco1 : coOk 0 1 10 hA0 hA1 hch = true := by decide +kernel
theorem hco3 : coOk 0 3 10 hA0 hA3 hch = true := by decide +kernel
theorem hfew : fewC (xe4 hA0 xw8 50 5 hch) = [[1, 0, 9], [2, 2, 0], [2, 3, 0]] := by decide +kernel
theorem hprv : prC 100 3 (xe4 hA0 xw8 50 5 hch) = [[2, 7], [3, 7], [3, 9]] := by decide +kernel
theorem hgap : xjq (xe4 hA0 xw8 50 5 hch) = [[2, 7], [2, 9], [3, 7], [3, 9]] := by decide +kernel
theorem hver : verC (xe4 hA0 xw8 50 5 hch) [[1, 0, 9], [2, 2, 0], [2, 3, 0]] [[2, 7], [3, 7], [3, 9]] = true := by decide +kernel
theorem hcr1 : xp1 (xuh 1 10 hA0 hA1 hch) = [7] := by decide +kernel
theorem hcr3 : xp1 (xuh 3 10 hA0 hA3 hch) = [] := by decide +kernel
theorem hsh1 : (valF 1 hA1 && tmF 12) = true ∧ xpJ 12 hA1 = [7] := by decide +kernel
theorem hva3 : valF 3 hA3 = true := by decide +kernel
theorem xys : hA0.length ≤ 9223372036854775807 := by decide +kernel
theorem xB5 : hA1.length ≤ 9223372036854775807 := by decide +kernel
theorem xBh : hA3.length ≤ 9223372036854775807 := by decide +kernel
theorem xBk : xga.length ≤ 9223372036854775807 := by show 3 ≤ 9223372036854775807; decide
theorem xyB : hch.length ≤ 9223372036854775807 := by decide
theorem hE : xbw 0 50 5 hA0 xga hch ∧ xa7 0 50 5 hA0 xga hch = [[1, 0, 9], [2, 2, 0], [2, 3, 0]] ∧ xdd 0 50 5 hA0 xga hch = [[2, 7], [3, 7], [3, 9]] ∧ xbQ 0 50 5 hA0 xga hch = 0 := by
 obtain ⟨h1, h2, h3, h4⟩ := xrX (ow := 0) (t := 50) (delay := 5) xys xBk xyB xu8 (.inl (by decide))
 rw [xjp, xu9, if_pos rfl, xvg, hfew] at h2
 rw [xjp, xu9, if_pos rfl, xvg, hfew, xAq] at h3
 rw [xjp, xu9, if_pos rfl] at h4
 exact ⟨h1, h2, h3.trans hprv, h4⟩
theorem hG : xcS 0 50 5 hA0 xga hch ∧ xeg 0 50 5 hA0 xga hch = [[2, 7], [2, 9], [3, 7], [3, 9]] ∧ xef 0 50 5 hA0 xga hch = 0 := by
 obtain ⟨h1, h2, h3⟩ := xBI (ow := 0) (t := 50) (delay := 5) xys xBk xyB xu8
 rw [xjp, xu9, if_pos rfl, hgap] at h2
 rw [xjp, xu9, if_pos rfl] at h3
 exact ⟨h1, h2, h3⟩
theorem hV : xb9 0 50 5 hA0 xga hch [[1, 0, 9], [2, 2, 0], [2, 3, 0]] [[2, 7], [3, 7], [3, 9]] ∧ xcR 0 50 5 hA0 xga hch [[1, 0, 9], [2, 2, 0], [2, 3, 0]] [[2, 7], [3, 7], [3, 9]] = true ∧ xdp 0 50 5 hA0 xga hch [[1, 0, 9], [2, 2, 0], [2, 3, 0]] [[2, 7], [3, 7], [3, 9]] = 0 := by
 obtain ⟨h1, h2, h3⟩ := xzp (ow := 0) (t := 50) (delay := 5) (office := hA0) (ships := xga) (list := hch) (om := [[1, 0, 9], [2, 2, 0], [2, 3, 0]]) (pr := [[2, 7], [3, 7], [3, 9]]) xys xBk xyB xu8 (by decide) (by decide)
 rw [xjp, xu9, xAT, hver] at h2
 rw [xjp, xu9, if_pos rfl] at h3
 exact ⟨h1, h2, h3⟩
theorem hC1 : xbA 0 1 10 hA0 hA1 hch ∧ xcI 0 1 10 hA0 hA1 hch = [[7]] ∧ xcH 0 1 10 hA0 hA1 hch = 0 := by
 obtain ⟨h1, h2, h3⟩ := xwE 0 1 10 hA0 hA1 hch xys xB5 xyB
 rw [hco1, if_pos rfl, hcr1] at h2
 rw [hco1, if_pos rfl] at h3
 exact ⟨h1, h2, h3⟩
theorem hC3 : xbA 0 3 10 hA0 hA3 hch ∧ xcI 0 3 10 hA0 hA3 hch = [] ∧ xcH 0 3 10 hA0 hA3 hch = 0 := by
 obtain ⟨h1, h2, h3⟩ := xwE 0 3 10 hA0 hA3 hch xys xBh xyB
 rw [hco3, if_pos rfl, hcr3] at h2
 rw [hco3, if_pos rfl] at h3
 exact ⟨h1, h2, h3⟩
theorem hS1 : xcv 1 12 hA1 ∧ xcF 1 12 hA1 = [[7]] ∧ xdg 1 12 hA1 = 0 := by
 obtain ⟨h1, h2, h3⟩ := xAd 1 12 hA1 xB5
 rw [hsh1.1, if_pos rfl, hsh1.2] at h2
 rw [hsh1.1, if_pos rfl] at h3
 exact ⟨h1, h2, h3⟩
theorem xAD : xaJ = [1, encL hA1] := by unfold xaJ; rw [xq9]; rfl
theorem xAC : xbn = [3, encL hA3] := by unfold xbn; rw [xq9]; rfl
theorem xjU : ([(1 : Int), (7 : Int), (10 : Int)] :: [(2 : Int), (7 : Int), (10 : Int)] :: xa0) = hch := rfl
theorem g20 : (xaJ).getD 0 (0 : Int) = 1 := by rw [xAD]; rfl
theorem g21 : decL ((xaJ).getD 1 (0 : Int)) = hA1 := by rw [xAD]; exact xfr _
theorem g40 : (xbn).getD 0 (0 : Int) = 3 := by rw [xAC]; rfl
theorem g41 : decL ((xbn).getD 1 (0 : Int)) = hA3 := by rw [xAC]; exact xfr _
theorem hd5 : xcZ = [[1, 0, 9], [2, 2, 0], [2, 3, 0]] := by
 unfold xcZ
 rw [xgT.2.1, xgT.2.2, xq9, xjU, hE.2.1]
theorem hd6 : xcx = [[2, 7], [3, 7], [3, 9]] := by
 unfold xcx
 rw [xgT.2.1, xgT.2.2, xq9, xjU, hE.2.2.1]
theorem hd7 : xg4 = 0 := by
 unfold xg4
 rw [xgT.2.1, xgT.2.2, g20, g21, xjU, hC1.2.2]
theorem hd8 : xg3 = 0 := by
 unfold xg3
 rw [xgT.2.1, xgT.2.2, g40, g41, xjU, hC3.2.2]
theorem hd9 : xg2 = 0 := by
 unfold xg2
 rw [xgT.2.1, xgT.2.2, xq9, xjU, hG.2.2]
theorem hd10 : xgz = 0 := by
 unfold xgz
 rw [xgT.2.1, xgT.2.2, xq9, xjU, hE.2.2.2]
theorem hd11 : xgy = 0 := by
 unfold xgy
 rw [xgT.2.1, xgT.2.2, xq9, xjU, hd5, hd6, hV.2.2]
theorem hd12 : xff = [[7]] := by
 unfold xff
 rw [xgT.2.1, xgT.2.2, g20, g21, xjU, hC1.2.1]
theorem hd13 : xgx = [] := by
 unfold xgx
 rw [xgT.2.1, xgT.2.2, g40, g41, xjU, hC3.2.1]
theorem hd14 : xfe = [[2, 7], [2, 9], [3, 7], [3, 9]] := by
 unfold xfe
 rw [xgT.2.1, xgT.2.2, xq9, xjU, hG.2.1]
theorem xyA : xdu = true := by
 unfold xdu
 rw [xq9, xjU, xgT.2.1, xgT.2.2, hd5, hd6, hd7, hd8, hd9, hd10, hd11, hd12, hd13, hd14, g20, g21, g40, g41, hS1.2.1, hS1.2.2, hV.2.1, (xvG _ _ (by decide)).2, (xjB _ _ (by decide)).2, (xuy _ _ (by decide)).2, (xjB _ _ (by decide)).2, (xfD 3 hA3 xBh).2, hva3]
 rfl
theorem xmX : xed := by
 unfold xed
 rw [xq9, xjU, xgT.2.1, xgT.2.2, hd5, hd6, hd12, hd14, g20, g21, g40, g41, hS1.2.1]
 have r0 : inR (0 : Int) xga := ⟨by decide, by show (0 : Int) < 3; decide⟩
 have r2 : inR (2 : Int) xga := ⟨by decide, by show (2 : Int) < 3; decide⟩
 exact ⟨⟨xBn.1, xBm.1, xBl.1, xgT.1⟩, r0, r0, hC1.1, r2, r2, hC3.1, hG.1, hE.1, hV.1, r0, r0, hS1.1, fun _ => ⟨(xvG _ _ (by decide)).1, fun _ => ⟨(xvG _ _ (by decide)).1, fun _ => ⟨(xjB _ _ (by decide)).1, fun _ => ⟨(xuy _ _ (by decide)).1, fun _ => ⟨(xjB _ _ (by decide)).1, fun _ => r2, fun _ => ⟨r2, (xfD 3 hA3 xBh).1⟩⟩⟩⟩⟩⟩⟩
end Go.Proofs.YtikhnofbbcmpeaaGreat
set_option linter.unusedVariables false
set_option maxRecDepth 100000
namespace Go.Proofs.YtikhnofbbcmpeaaGreat
open Go Go.Sy
theorem xyl {step : List U → Option (Nat × List U)} {l : List (List Int)} {p : List Int → Bool} (m : Nat) (hs : ∀ i (hi : i < l.length), step [.b false, .i i] = bif p l[i] then some (1, []) else some (0, [.b false, .i ((i + 1 : Nat) : Int)]))
  (he : step [.b false, .i l.length] = some (m + 2, [.b false, .i l.length])) {init : List U} (hi : init = [.b false, .i ((0 : Nat) : Int)]) :
  xax step init ∧ (bif (xam step init).fst.beq 1 then true else false) = l.any p := by
 subst hi
 obtain ⟨h1, h2⟩ := xdC (step := step) l.length (fun i => p (l.getD i [])) (fun i => [.b false, .i i]) (fun i => []) 0 (m + 1) [.b false, .i l.length]
  (fun i hi => by rw [hs i hi, xaX hi]) he
 refine ⟨h1, ?_⟩
 rcases h2 with ⟨i, hi, hp, _, hg⟩ | ⟨hn, hg⟩
 ·rw [hg]
  have : l.any p = true := List.any_eq_true.2 ⟨l[i], List.getElem_mem hi, by rw [← xaX hi]; exact hp⟩
  rw [this]; rfl
 ·rw [hg]
  have : l.any p = false := List.any_eq_false.2 fun x hx => by
   obtain ⟨i, hi, rfl⟩ := List.getElem_of_mem hx
   have := hn i hi
   simp only [xaX hi] at this
   simp [this]
  rw [this]; rfl
theorem xBe {step : List U → Option (Nat × List U)} {l : List (List Int)} {p : List Int → Bool} (m : Nat) (hs : ∀ i b (hi : i < l.length), step [.b b, .i i] = some (0, [.b (b || p l[i]), .i ((i + 1 : Nat) : Int)]))
  (he : ∀ b, step [.b b, .i l.length] = some (m + 1, [.b b, .i l.length])) {init : List U} (hi : init = [.b false, .i ((0 : Nat) : Int)]) : xax step init ∧ gb (xam step init).snd 0 = l.any p := by
 subst hi
 obtain ⟨h1, h2⟩ := xbZ (step := step) l (fun i (s : Bool) => [.b s, .i i]) (fun s x => .inl (s || p x)) (fun _ _ => True) (fun s => (m, [.b s, .i l.length])) 0 (fun i s hi _ _ => ⟨hs i s hi, fun _ _ => trivial⟩)
  (fun i s hi _ => by
   have : i = l.length := by omega
   subst this
   exact he s) (s := false) trivial
 refine ⟨h1, ?_⟩
 rw [h2, List.drop_zero, xdV]
 have : ∀ (l : List (List Int)) (b : Bool), l.foldl (fun s x => s || p x) b = (b || l.any p) := by
  intro l
  induction l with
  | nil => intro b; simp
  | cons x r ih => intro b; rw [List.foldl_cons, ih, List.any_cons, Bool.or_assoc]
 rw [this, Bool.false_or]
 exact gb_z _ _
def offR (t : Int) (l : List (List Int)) : Bool := l.foldl (fun off x => if (decide (col x 0 ≤ t) && (col x 1 == 4 || col x 1 == 5)) = true then col x 1 == 4 else off) false
theorem xCB (o t : Int) (l : List (List Int)) (hl : l.length ≤ 9223372036854775807) : xfJ o t l ∧ xdW o t l = offR t l := by
 obtain ⟨h1, h2⟩ := xbZ (step := xc4 o t l) l (fun i (s : Bool) => [.b s, .i i]) (fun off x => .inl (if (decide (col x 0 ≤ t) && (col x 1 == 4 || col x 1 == 5)) = true then col x 1 == 4 else off)) (fun _ _ => True) (fun s => (2, [.b s, .i l.length])) 0
  (fun i s hi _ _ => ⟨by
   have hr := xat hi
   unfold xc4
   simp only [gi_1, gi_z, gb_z]
   rw [dlt hi, xaa hr, xaa hr, xaa hr, xaa (fun _ => hr), xaa (fun _ => hr), xaa (fun _ => hr), xaa (fun _ _ => hr), xaa (fun _ _ => hr), xaa (fun _ _ => hr), xaa hr, xaa hr, xaa hr, xaM hi, xde (by omega)]
   show (bif (decide (col l[i] 0 ≤ t) && (col l[i] 1 == 4 || col l[i] 1 == 5)) then _ else _) = _
   cases (decide (col l[i] 0 ≤ t) && (col l[i] 1 == 4 || col l[i] 1 == 5))
   ·rw [if_neg (by decide)]; rfl
   ·rw [if_pos rfl]; rfl, fun _ _ => trivial⟩)
  (fun i s hi _ => by
   have : i = l.length := by omega
   subst this
   unfold xc4
   simp only [gi_1, gi_z, gb_z, dnlt]) (s := false) trivial
 refine ⟨h1, ?_⟩
 have : xdW o t l = gb (xam (xc4 o t l) [.b false, .i ((0 : Nat) : Int)]).snd 0 := rfl
 rw [this, h2, List.drop_zero, xdV]
 exact gb_z _ _
def hasR (k n a b : Int) (l : List (List Int)) : Bool := l.any fun x => col x 1 == k && col x 2 == n && decide (a ≤ col x 0) && decide (col x 0 ≤ b)
theorem xAR (o k n a b : Int) (l : List (List Int)) (hl : l.length ≤ 9223372036854775807) : xeU o k n a b l ∧ xeD o k n a b l = hasR k n a b l :=
 xyl (step := xdL o k n a b l) 1 (fun i hi => by
   unfold xdL
   simp only [gi_1, gi_z, gb_z]
   rw [dlt hi, xaa (xat hi), xaa (xat hi), xaM hi, xde (by omega)])
  (by unfold xdL; simp only [gi_1, gi_z, gb_z, dnlt]) rfl
theorem xvJ {o : Int} : ∀ {l : List (List Int)} {off : Bool} {last now : Int}, vldF o off last now l = true → (∀ x ∈ l, now ≤ col x 0 ∧ lnF (col x 0) (col x 1) (col x 2) = true ∧ ownF o (col x 1) = true) ∧ l.Pairwise (fun a b => col a 0 ≤ col b 0)
 | [], _, _, _, _ => ⟨(fun x hx => by cases hx), List.Pairwise.nil⟩
 | x :: r, off, last, now, h => by
  unfold vldF at h
  split at h
  ·cases h
  ·rename_i h1
   have h1' : (!lnF (col x 0) (col x 1) (col x 2) || !ownF o (col x 1) || decide (col x 0 < now) || col x 3 != sumF o last (col x 0) (col x 1) (col x 2)) = false := by simpa using h1
   rw [Bool.or_eq_false_iff, Bool.or_eq_false_iff, Bool.or_eq_false_iff] at h1'
   obtain ⟨⟨⟨a1, a2⟩, a3⟩, a4⟩ := h1'
   have a3 := of_decide_eq_false a3
   have hr : ∃ off', vldF o off' (col x 3) (col x 0) r = true := by
    split at h
    ·split at h
     ·cases h
     ·exact ⟨_, h⟩
    ·exact ⟨_, h⟩
   obtain ⟨off', hr⟩ := hr
   obtain ⟨b1, b2⟩ := xvJ hr
   refine ⟨fun y hy => ?_, List.pairwise_cons.2 ⟨fun y hy => (b1 y hy).1, b2⟩⟩
   rcases List.mem_cons.1 hy with rfl | hy
   ·exact ⟨by omega, by simpa using a1, by simpa using a2⟩
   ·have := b1 y hy
    exact ⟨by omega, this.2⟩
theorem xpg {o : Int} {l : List (List Int)} (h : valF o l = true) : (∀ x ∈ l, 0 ≤ col x 0 ∧ lnF (col x 0) (col x 1) (col x 2) = true ∧ ownF o (col x 1) = true) ∧ l.Pairwise (fun a b => col a 0 ≤ col b 0) := by
 unfold valF at h
 rw [Bool.and_eq_true] at h
 exact xvJ h.2
theorem cls3 (k : Int) : clsF k = 3 ↔ (k = 4 ∨ k = 5) := by
 unfold clsF
 by_cases h1 : k = 1
 ·rw [if_pos h1]; omega
 ·rw [if_neg h1]
  by_cases h2 : k = 2 ∨ k = 3
  ·rw [if_pos h2]; omega
  ·rw [if_neg h2]
   by_cases h3 : k = 4 ∨ k = 5
   ·rw [if_pos h3]; simp [h3]
   ·rw [if_neg h3]; simp [h3]
theorem xx4 (t : Int) : ∀ {l : List (List Int)} (b : Bool), l.Pairwise (fun a b => col a 0 ≤ col b 0) → onF t b l = !(l.foldl (fun off x => if (decide (col x 0 ≤ t) && (col x 1 == 4 || col x 1 == 5)) = true then col x 1 == 4 else off) (!b))
 | [], b, _ => by simp [onF]
 | x :: r, b, h => by
  obtain ⟨h1, h2⟩ := List.pairwise_cons.1 h
  unfold onF
  rw [List.foldl_cons]
  by_cases ht : col x 0 > t
  ·rw [if_pos ht]
   have key : ∀ (l : List (List Int)) (c : Bool), (∀ y ∈ l, col y 0 > t) → l.foldl (fun off x => if (decide (col x 0 ≤ t) && (col x 1 == 4 || col x 1 == 5)) = true then col x 1 == 4 else off) c = c := by
    intro l
    induction l with
    | nil => intro c _; rfl
    | cons y r ih =>
     intro c hy
     rw [List.foldl_cons, decide_eq_false (show ¬ col y 0 ≤ t by have := hy y List.mem_cons_self; omega), Bool.false_and, if_neg (by decide)]
     exact ih c fun z hz => hy z (List.mem_cons_of_mem _ hz)
   rw [decide_eq_false (show ¬ col x 0 ≤ t by omega), Bool.false_and, if_neg (by decide), key r _ (fun y hy => by have := h1 y hy; omega), Bool.not_not]
  ·rw [if_neg ht, decide_eq_true (show col x 0 ≤ t by omega), Bool.true_and]
   by_cases h3 : clsF (col x 1) = 3
   ·rw [if_pos h3]
    have e : (col x 1 == 4 || col x 1 == 5) = true := by
     rcases (cls3 _).1 h3 with h | h <;> rw [h] <;> rfl
    rw [if_pos e, xx4 t (col x 1 == 5) h2]
    have e2 : (!(col x 1 == 5)) = (col x 1 == 4) := by
     rcases (cls3 _).1 h3 with h | h <;> rw [h] <;> rfl
    rw [e2]
   ·rw [if_neg h3]
    have e : (col x 1 == 4 || col x 1 == 5) = false := by
     rw [bne fun h => h3 ((cls3 _).2 (.inl h)), bne fun h => h3 ((cls3 _).2 (.inr h))]; rfl
    rw [e, if_neg (by decide), xx4 t b h2]
theorem xBV {o : Int} {l : List (List Int)} (h : valF o l = true) (t : Int) : offR t l = !onF t true l := by
 rw [xx4 t true (xpg h).2, Bool.not_not]
 rfl
theorem xuO {l : List (List Int)} (h : valF 0 l = true) : ∀ x ∈ l, col x 1 = 1 := by
 intro x hx
 have h3 := ((xpg h).1 x hx).2.2
 unfold ownF clsF at h3
 by_cases h1 : col x 1 = 1
 ·exact h1
 ·rw [if_neg h1] at h3
  exfalso
  by_cases h2 : col x 1 = 2 ∨ col x 1 = 3
  ·rw [if_pos h2] at h3; cases h3
  ·rw [if_neg h2] at h3
   by_cases h4 : col x 1 = 4 ∨ col x 1 = 5
   ·rw [if_pos h4] at h3; cases h3
   ·rw [if_neg h4] at h3; cases h3
theorem xxs {l : List (List Int)} {p q : List Int → Bool} (h : ∀ x ∈ l, p x = q x) : l.any p = l.any q := by
 induction l with
 | nil => rfl
 | cons x r ih => rw [List.any_cons, List.any_cons, h x List.mem_cons_self, ih fun y hy => h y (List.mem_cons_of_mem _ hy)]
end Go.Proofs.YtikhnofbbcmpeaaGreat
set_option linter.unusedVariables false
namespace Go.Koen
section
variable {ε α β : Type} [DecidableEq α] [DecidableEq β] (l : ε → α) (r : ε → Option β)
def Cov (A : α → Bool) (B : β → Bool) (e : ε) : Prop := A (l e) = true ∨ ∃ b, r e = some b ∧ B b = true
def xDG (e f : ε) : Prop := l e ≠ l f ∧ ∀ b, r e = some b → r f ≠ some b
def size (UA : List α) (UB : List β) (A : α → Bool) (B : β → Bool) : Nat := UA.countP A + UB.countP B
theorem xma {γ : Type} {p q : γ → Bool} (h : ∀ x, p x = true → q x = true) : ∀ l : List γ, l.countP p ≤ l.countP q
 | [] => Nat.le_refl _
 | x :: t => by
  have := xma h t
  rw [List.countP_cons, List.countP_cons]
  have h1 := h x
  cases hp : p x <;> cases hq : q x <;> simp_all <;> omega
theorem xn5 {γ : Type} [DecidableEq γ] {p : γ → Bool} {v : γ} : ∀ {l : List γ}, v ∈ l → p v = true → l.countP (fun x => p x && decide (x ≠ v)) + 1 ≤ l.countP p
 | [], h, _ => by cases h
 | x :: t, h, hp => by
  rw [List.countP_cons, List.countP_cons]
  by_cases e : x = v
  ·subst e
   have := xma (p := fun y => p y && decide (y ≠ x)) (q := p) (fun y hy => by simp_all) t
   simp only [hp]
   simp
   simpa using this
  ·have hm : v ∈ t := by
    rcases List.mem_cons.1 h with h | h
    ·exact absurd h.symm e
    ·exact h
   have := xn5 hm hp
   cases hx : p x <;> simp_all <;> omega
variable {l r}
theorem weak {UA : List α} {UB : List β} : ∀ {M : List ε} {A : α → Bool} {B : β → Bool}, M.Pairwise (xDG l r) → (∀ e ∈ M, Cov l r A B e) → (∀ e ∈ M, l e ∈ UA ∧ ∀ b, r e = some b → b ∈ UB) → M.length ≤ size UA UB A B
 | [], _, _, _, _, _ => Nat.zero_le _
 | e :: M, A, B, hM, hC, hU => by
  obtain ⟨h1, h2⟩ := List.pairwise_cons.1 hM
  have hU' : ∀ e ∈ M, l e ∈ UA ∧ ∀ b, r e = some b → b ∈ UB := fun f hf => hU f (List.mem_cons_of_mem _ hf)
  rcases hC e List.mem_cons_self with hA | ⟨b, hb, hB⟩
  ·have := weak (A := fun x => A x && decide (x ≠ l e)) (B := B) h2 (fun f hf => by
    rcases hC f (List.mem_cons_of_mem _ hf) with h | h
    ·exact .inl (by simp [h, Ne.symm (h1 f hf).1])
    ·exact .inr h) hU'
   have hd := xn5 (p := A) (hU e List.mem_cons_self).1 hA
   simp only [List.length_cons]
   unfold size at *
   omega
  ·have := weak (A := A) (B := fun x => B x && decide (x ≠ b)) h2 (fun f hf => by
    rcases hC f (List.mem_cons_of_mem _ hf) with h | ⟨b', hb', hB'⟩
    ·exact .inl h
    ·refine .inr ⟨b', hb', ?_⟩
     have : b' ≠ b := fun e' => (h1 f hf).2 b hb (by rw [hb', e'])
     simp [hB', this]) hU'
   have hd := xn5 (p := B) ((hU e List.mem_cons_self).2 b hb) hB
   simp only [List.length_cons]
   unfold size at *
   omega
end
end Go.Koen
set_option linter.unusedVariables false
set_option maxRecDepth 100000
namespace Go.Proofs.YtikhnofbbcmpeaaGreat
open Go Go.Sy Go.Koen
theorem xdY {α : Type} [DecidableEq α] : ∀ {l l' : List α}, l.Nodup → (∀ x ∈ l, x ∈ l') → l.length ≤ l'.length
 | [], _, _, _ => Nat.zero_le _
 | x :: r, l', hn, hs => by
  obtain ⟨h1, h2⟩ := List.nodup_cons.1 hn
  have hx := hs x List.mem_cons_self
  have := xdY (l := r) (l' := l'.erase x) h2 fun y hy => (List.mem_erase_of_ne (fun e : y = x => h1 (by rw [← e]; exact hy))).2 (hs y (List.mem_cons_of_mem _ hy))
  rw [List.length_erase_of_mem hx] at this
  have : 0 < l'.length := List.length_pos_of_mem hx
  simp only [List.length_cons]
  omega
theorem xtF {α : Type} [DecidableEq α] {l l' : List α} (h : l.Nodup) (h' : l'.Nodup) (hm : ∀ x, x ∈ l ↔ x ∈ l') : l.length = l'.length :=
 Nat.le_antisymm (xdY h fun x hx => (hm x).1 hx) (xdY h' fun x hx => (hm x).2 hx)
theorem xtE {α : Type} [DecidableEq α] {l l' : List α} (h : l.Nodup) {y : α} (hy : y ∈ l') (hy' : y ∉ l) (hs : ∀ x ∈ l, x ∈ l') : l.length < l'.length := by
 have := xdY (l := y :: l) (List.nodup_cons.2 ⟨hy', h⟩) (l' := l') fun x hx => by
  rcases List.mem_cons.1 hx with rfl | hx
  ·exact hy
  ·exact hs x hx
 rw [List.length_cons] at this
 omega
theorem xkU (m : Nat) (list : List (List Int)) : (byF m list).Nodup := by
 refine List.nodup_iff_pairwise_ne.2 ((xpv m list).1.imp fun {a b} h e => ?_)
 subst e
 have := xeJ [0, 1, 2] a a
 rw [h] at this
 simp at this
theorem xzm (m : Nat) (list : List (List Int)) (x : List Int) : x ∈ xii m list ↔ (∃ k, k < 9 ∧ m.testBit k = true ∧ x = rOn k) ∨ ∃ g ∈ list, cov m g = false ∧ x = lft g := by
 unfold xii
 rw [List.mem_append, List.mem_map, List.mem_map]
 constructor
 ·rintro (⟨k, hk, rfl⟩ | ⟨g, hg, rfl⟩)
  ·obtain ⟨h1, h2⟩ := List.mem_filter.1 hk
   exact .inl ⟨k, List.mem_range.1 h1, h2, rfl⟩
  ·obtain ⟨h1, h2⟩ := List.mem_filter.1 hg
   exact .inr ⟨g, h1, by simpa using h2, rfl⟩
 ·rintro (⟨k, h1, h2, rfl⟩ | ⟨g, h1, h2, rfl⟩)
  ·exact .inl ⟨k, List.mem_filter.2 ⟨List.mem_range.2 h1, h2⟩, rfl⟩
  ·exact .inr ⟨g, List.mem_filter.2 ⟨h1, by rw [h2]; rfl⟩, rfl⟩
theorem xkV (m : Nat) (list : List (List Int)) (x : List Int) : x ∈ byF m list ↔ (∃ k, k < 9 ∧ m.testBit k = true ∧ x = rOn k) ∨ ∃ g ∈ list, cov m g = false ∧ x = lft g := by
 rw [(xpv m list).2, xzm]
theorem xAw (g : List Int) (k : Nat) : lft g ≠ rOn k := by
 unfold lft rOn
 split <;> simp
theorem xwk (list : List (List Int)) : ∀ n, (∃ m, (m = 0 ∨ m < n) ∧ upto (xd4 list) n (byF 0 list) = byF m list) ∧ ∀ m, m < n → subB m (allF list) = true → xe6 (byF m list) (upto (xd4 list) n (byF 0 list)) = false
 | 0 => ⟨⟨0, .inl rfl, rfl⟩, fun m h => by omega⟩
 | n + 1 => by
  obtain ⟨⟨m, hm, he⟩, h2⟩ := xwk list n
  have e : upto (xd4 list) (n + 1) (byF 0 list) = xd4 list n (upto (xd4 list) n (byF 0 list)) := rfl
  rw [e]
  generalize upto (xd4 list) n (byF 0 list) = b at *
  unfold xd4
  by_cases hs : subB n (allF list) = true
  ·rw [if_pos hs]
   by_cases hb : xe6 (byF n list) b = true
   ·rw [if_pos hb]
    refine ⟨⟨n, .inr (by omega), rfl⟩, fun m' hm' hs' => ?_⟩
    by_cases e' : m' = n
    ·rw [e']; exact xxq _
    ·cases hbb : xe6 (byF m' list) (byF n list) with
     | false => rfl
     | true =>
      have := xoI hbb hb
      rw [h2 m' (by omega) hs'] at this
      cases this
   ·rw [if_neg hb]
    refine ⟨⟨m, hm.imp id fun h => by omega, he⟩, fun m' hm' hs' => ?_⟩
    by_cases e' : m' = n
    ·rw [e']; simpa using hb
    ·exact h2 m' (by omega) hs'
  ·rw [if_neg hs]
   refine ⟨⟨m, hm.imp id fun h => by omega, he⟩, fun m' hm' hs' => ?_⟩
   by_cases e' : m' = n
   ·rw [e'] at hs'; exact absurd hs' hs
   ·exact h2 m' (by omega) hs'
theorem xxA {m a : Nat} (hm : m < 512) (h : subB m a = true) : m ≤ a := by
 have e : m &&& a = m := by
  apply Nat.eq_of_testBit_eq
  intro i
  rw [Nat.testBit_and]
  by_cases h9 : i < 9
  ·have := List.all_eq_true.1 h i (List.mem_range.2 h9)
   cases h1 : m.testBit i <;> cases h2 : a.testBit i <;> simp_all
  ·rw [xrk hm (by omega)]; rfl
 rw [← e]
 exact Nat.and_le_right
theorem xt9 {list : List (List Int)} (hs : xeS list) : (∃ m, m < 512 ∧ fewF list = byF m list) ∧ ∀ m, m < 512 → xe6 (byF m list) (fewF list) = false := by
 obtain ⟨hall, hbit⟩ := xwy hs
 obtain ⟨⟨m0, hm0, he⟩, hmin⟩ := xwk list (allF list + 1)
 have he : fewF list = byF m0 list := he
 have hmin : ∀ m, m < allF list + 1 → subB m (allF list) = true → xe6 (byF m list) (fewF list) = false := hmin
 refine ⟨⟨m0, by omega, he⟩, fun m hm => ?_⟩
 by_cases hsub : subB m (allF list) = true
 ·exact hmin m (by have := xxA hm hsub; omega) hsub
 ·have hlt : m &&& allF list < 512 := Nat.and_lt_two_pow (n := 9) _ hall
  have hsub' : subB (m &&& allF list) (allF list) = true := List.all_eq_true.2 fun k _ => by
   rw [Nat.testBit_and]
   cases m.testBit k <;> cases (allF list).testBit k <;> rfl
  have h1 := hmin (m &&& allF list) (by have := xxA hlt hsub'; omega) hsub'
  obtain ⟨k, hk, hk'⟩ : ∃ k, k < 9 ∧ (!m.testBit k || (allF list).testBit k) = false := by
   refine Classical.byContradiction fun hn => hsub (List.all_eq_true.2 fun k hk => ?_)
   cases h : (!m.testBit k || (allF list).testBit k) with
   | true => rfl
   | false => exact absurd ⟨k, List.mem_range.1 hk, h⟩ hn
  have hk1 : m.testBit k = true ∧ (allF list).testBit k = false := by
   cases h1 : m.testBit k <;> cases h2 : (allF list).testBit k <;> simp_all
  have hcov : ∀ g ∈ list, cov (m &&& allF list) g = cov m g := fun g hg => by
   unfold cov
   cases h3 : (col g 3 != 0) with
   | false => rfl
   | true =>
    have : (allF list).testBit (col g 0).toNat = true := by
     rw [hbit, List.any_eq_true]
     exact ⟨g, hg, by rw [h3]; simp⟩
    rw [Nat.testBit_and, this, Bool.and_true]
  have hlen : (byF (m &&& allF list) list).length < (byF m list).length := by
   refine xtE (xkU _ _) (y := rOn k) ((xkV _ _ _).2 (.inl ⟨k, hk, hk1.1, rfl⟩)) (fun h => ?_) fun x hx => ?_
   ·rcases (xkV _ _ _).1 h with ⟨k', _, hb, e⟩ | ⟨g, _, _, e⟩
    ·have : k = k' := by
      have e1 : ((k : Nat) : Int) = (k' : Int) := by
       unfold rOn at e
       simpa using e
      omega
     subst this
     rw [Nat.testBit_and, hk1.2, Bool.and_false] at hb
     cases hb
    ·exact xAw g k e.symm
   ·rcases (xkV _ _ _).1 hx with ⟨k', h1, hb, e⟩ | ⟨g, h1, h2, e⟩
    ·rw [Nat.testBit_and, Bool.and_eq_true] at hb
     exact (xkV _ _ _).2 (.inl ⟨k', h1, hb.1, e⟩)
    ·exact (xkV _ _ _).2 (.inr ⟨g, h1, by rw [← hcov g h1]; exact h2, e⟩)
  cases hb : xe6 (byF m list) (fewF list) with
  | false => rfl
  | true =>
   have : xe6 (byF (m &&& allF list) list) (byF m list) = true := by unfold xe6; rw [decide_eq_true hlen]; rfl
   have := xoI this hb
   rw [h1] at this
   cases this
theorem xy6 {list : List (List Int)} (hs : xeS list) {m : Nat} (hm : m < 512) : (fewF list).length ≤ (byF m list).length := by
 have := (xt9 hs).2 m hm
 unfold xe6 at this
 simp only [Bool.or_eq_false_iff, decide_eq_false_iff_not] at this
 omega
def rt (g : List Int) : Option Int := if col g 3 = 0 then none else some (col g 0)
def uB : List Int := [0, 1, 2, 3, 4, 5, 6, 7, 8]
theorem xBM (k : Int) : k ∈ uB ↔ 0 ≤ k ∧ k ≤ 8 := by
 unfold uB
 simp only [List.mem_cons, List.not_mem_nil, or_false]
 omega
theorem xzt : uB.Nodup := by decide
theorem xAj (list : List (List Int)) (x : List Int) : x ∈ byF 0 list ↔ ∃ g ∈ list, x = lft g := by
 rw [xkV]
 constructor
 ·rintro (⟨k, _, h, _⟩ | ⟨g, h, _, e⟩)
  ·simp at h
  ·exact ⟨g, h, e⟩
 ·rintro ⟨g, h, e⟩
  exact .inr ⟨g, h, by unfold cov; simp, e⟩
def aOf (m : Nat) (list : List (List Int)) (x : List Int) : Bool := decide (∃ g ∈ list, cov m g = false ∧ x = lft g)
def bOf (m : Nat) (k : Int) : Bool := m.testBit k.toNat
theorem xAZ (m : Nat) (list : List (List Int)) : size (byF 0 list) uB (aOf m list) (bOf m) = (byF m list).length := by
 have hr : (((List.range 9).filter m.testBit).map rOn).Nodup := by
  rw [List.nodup_iff_pairwise_ne, List.pairwise_map]
  refine ((List.nodup_iff_pairwise_ne.1 List.nodup_range).filter m.testBit).imp fun {a b} h e => h ?_
  have e1 : ((a : Nat) : Int) = (b : Int) := by
   unfold rOn at e
   simpa using e
  omega
 have h1 : (byF m list).length = ((byF 0 list).filter (aOf m list) ++ ((List.range 9).filter m.testBit).map rOn).length := by
  refine xtF (xkU m list) (List.nodup_append.2 ⟨(xkU 0 list).filter _, hr, fun a ha b hb e => ?_⟩) fun x => ?_
  ·obtain ⟨g, _, e1⟩ := (xAj _ _).1 (List.mem_filter.1 ha).1
   obtain ⟨k, _, e2⟩ := List.mem_map.1 hb
   exact xAw g k (by rw [← e1, e, e2])
  ·rw [xkV, List.mem_append, List.mem_filter, List.mem_map]
   constructor
   ·rintro (⟨k, h1, h2, h3⟩ | ⟨g, h1, h2, h3⟩)
    ·exact .inr ⟨k, List.mem_filter.2 ⟨List.mem_range.2 h1, h2⟩, h3.symm⟩
    ·exact .inl ⟨(xAj _ _).2 ⟨g, h1, h3⟩, decide_eq_true ⟨g, h1, h2, h3⟩⟩
   ·rintro (⟨_, h⟩ | ⟨k, h1, h2⟩)
    ·obtain ⟨g, h1, h2, h3⟩ := of_decide_eq_true h
     exact .inr ⟨g, h1, h2, h3⟩
    ·obtain ⟨h3, h4⟩ := List.mem_filter.1 h1
     exact .inl ⟨k, List.mem_range.1 h3, h4, h2.symm⟩
 have h2 : uB.countP (bOf m) = ((List.range 9).filter m.testBit).length := by
  have e : uB = (List.range 9).map (fun k : Nat => (k : Int)) := by decide
  rw [e, List.countP_map, ← List.countP_eq_length_filter]
  exact List.countP_congr fun (k : Nat) _ => by show m.testBit (k : Int).toNat = true ↔ _; rw [Int.toNat_natCast]
 unfold size
 rw [h1, h2, List.length_append, List.length_map, List.countP_eq_length_filter]
def mask : List Bool → Nat
 | [] => 0
 | b :: r => b.toNat + 2 * mask r
theorem xst : ∀ (l : List Bool) (k : Nat), (mask l).testBit k = l.getD k false
 | [], k => by simp [mask]
 | b :: r, 0 => by
  unfold mask
  cases b <;> simp [Nat.testBit_zero]
 | b :: r, k + 1 => by
  have ih := xst r k
  unfold mask
  rw [Nat.testBit_succ]
  have : (b.toNat + 2 * mask r) / 2 = mask r := by cases b <;> simp <;> omega
  rw [this, ih]; rfl
theorem xuY : ∀ (l : List Bool), mask l < 2 ^ l.length
 | [] => by simp [mask]
 | b :: r => by
  have := xuY r
  unfold mask
  rw [List.length_cons, Nat.pow_succ]
  cases b <;> simp <;> omega
theorem xz5 {list : List (List Int)} (hs : xeS list) {A : List Int → Bool} {B : Int → Bool} (hc : ∀ e ∈ list, Cov lft rt A B e) : (fewF list).length ≤ size (byF 0 list) uB A B := by
 let m := mask ((List.range 9).map fun k : Nat => B (k : Int))
 have hm : m < 512 := by
  have := xuY ((List.range 9).map fun k : Nat => B (k : Int))
  simpa using this
 have hbit : ∀ k, k < 9 → m.testBit k = B (k : Int) := fun k hk => by
  show (mask _).testBit k = _
  rw [xst, List.getD_eq_getElem?_getD, List.getElem?_map, List.getElem?_range hk]
  rfl
 refine Nat.le_trans (xy6 hs hm) ?_
 rw [← xAZ m list]
 have h1 : (byF 0 list).countP (aOf m list) ≤ (byF 0 list).countP A := by
  refine xma (fun x hx => ?_) _
  obtain ⟨g, hg, hcv, rfl⟩ := of_decide_eq_true hx
  rcases hc g hg with h | ⟨b, hb, hB⟩
  ·exact h
  ·exfalso
   unfold rt at hb
   split at hb
   ·cases hb
   ·rename_i h3
    cases hb
    have hsh := hs g hg
    unfold cov at hcv
    rw [hbit _ (by omega), Int.toNat_of_nonneg hsh.1, hB] at hcv
    simp at hcv
    exact h3 hcv
 have h2 : uB.countP (bOf m) ≤ uB.countP B := by
  have : ∀ l : List Int, (∀ k ∈ l, 0 ≤ k ∧ k ≤ 8) → l.countP (bOf m) ≤ l.countP B := fun l hl => by
   refine Nat.le_of_eq (List.countP_congr fun k hk => ?_)
   have := hl k hk
   unfold bOf
   rw [hbit _ (by omega), Int.toNat_of_nonneg this.1]
  exact this uB fun k hk => (xBM k).1 hk
 unfold size
 omega
end Go.Proofs.YtikhnofbbcmpeaaGreat
set_option linter.unusedVariables false
set_option maxRecDepth 100000
namespace Go.Proofs.YtikhnofbbcmpeaaGreat
open Go Go.Sy Go.Koen
def xrW (gs : List (List Int)) : Prop := gs.Pairwise fun a b => ltK (kOf a) (kOf b)
theorem xtN {a b : Key} (h : ltK a b) : a ≠ b := fun e => by subst e; unfold ltK at h; omega
theorem xB7 (g h : List Int) : (col g 0 == col h 0 && (col g 1 == col h 1 && true)) = decide (kOf g = kOf h) := by
 by_cases e : kOf g = kOf h
 ·obtain ⟨h1, h2⟩ := Prod.mk.inj e
  rw [decide_eq_true e, h1, h2]; simp
 ·rw [decide_eq_false e]
  cases hb : (col g 0 == col h 0 && (col g 1 == col h 1 && true)) with
  | false => rfl
  | true =>
   simp only [Bool.and_eq_true, beq_iff_eq] at hb
   exact absurd (Prod.ext hb.1 hb.2.1) e
def imA (gs : List (List Int)) (o : List Int) : Option (List Int) := if col o 0 = 1 then some [1, 0, col o 2] else if col o 0 = 3 then (gs.find? fun g => decide (kOf g = (col o 1, col o 2))).map lft else none
def imB (o : List Int) : Option Int := if col o 0 = 2 then some (col o 1) else none
theorem xAB (gs : List (List Int)) : ∀ om : List (List Int), (om.filterMap (imA gs)).length + (om.filterMap imB).length ≤ om.length
 | [] => Nat.le_refl _
 | o :: r => by
  have ih := xAB gs r
  rw [List.filterMap_cons, List.filterMap_cons, List.length_cons]
  unfold imA imB
  by_cases h1 : col o 0 = 1
  ·rw [if_pos h1, if_neg (by omega)]
   simp only [List.length_cons]
   unfold imA imB at ih
   omega
  ·rw [if_neg h1]
   by_cases h2 : col o 0 = 2
   ·rw [if_neg (by omega), if_pos h2]
    simp only [List.length_cons]
    unfold imA imB at ih
    omega
   ·rw [if_neg h2]
    unfold imA imB at ih
    by_cases h3 : col o 0 = 3
    ·rw [if_pos h3]
     cases (gs.find? fun g => decide (kOf g = (col o 1, col o 2))).map lft with
     | none => show (List.filterMap _ r).length + (List.filterMap _ r).length ≤ _; omega
     | some z => show (z :: List.filterMap _ r).length + (List.filterMap _ r).length ≤ _; rw [List.length_cons]; omega
    ·rw [if_neg h3]
     show (List.filterMap _ r).length + (List.filterMap _ r).length ≤ _
     omega
theorem xwm {α : Type} [DecidableEq α] {U L : List α} {p : α → Bool} (h : U.Nodup) (hp : ∀ x, p x = true → x ∈ L) : U.countP p ≤ L.length := by
 rw [List.countP_eq_length_filter]
 exact xdY (h.filter _) fun x hx => hp x (List.mem_filter.1 hx).2
theorem xBB {gs om : List (List Int)} (hs : xeS gs) (hu : xrW gs) (h : ∀ g ∈ gs, ∃ o ∈ om, canF g o = true) : (fewF gs).length ≤ om.length := by
 have hc : ∀ e ∈ gs, Cov lft rt (fun x => decide (x ∈ om.filterMap (imA gs))) (fun b => decide (b ∈ om.filterMap imB)) e := by
  intro g hg
  obtain ⟨o, ho, hcan⟩ := h g hg
  unfold canF at hcan
  cases h1 : (col o 0 == 1 && (col o 1 == 0 && (col o 2 == col g 1 && true))) with
  | true =>
   rw [h1, cond_true] at hcan
   simp only [Bool.and_eq_true, beq_iff_eq] at h1
   refine .inl (decide_eq_true (List.mem_filterMap.2 ⟨o, ho, ?_⟩))
   unfold imA lft
   rw [if_pos h1.1, if_neg (by simpa using hcan), h1.2.2.1]
  | false =>
   rw [h1, cond_false] at hcan
   cases h2 : (col o 0 == 2 && (col o 1 == col g 0 && (col o 2 == 0 && true))) with
   | true =>
    rw [h2, cond_true] at hcan
    simp only [Bool.and_eq_true, beq_iff_eq] at h2
    refine .inr ⟨col g 0, ?_, decide_eq_true (List.mem_filterMap.2 ⟨o, ho, ?_⟩)⟩
    ·unfold rt
     rw [if_neg (by simpa using hcan)]
    ·unfold imB
     rw [if_pos h2.1, h2.2.1]
   | false =>
    rw [h2, cond_false] at hcan
    simp only [Bool.and_eq_true, beq_iff_eq] at hcan
    refine .inl (decide_eq_true (List.mem_filterMap.2 ⟨o, ho, ?_⟩))
    unfold imA
    rw [if_neg (by omega), if_pos hcan.1]
    have hkey : kOf g = (col o 1, col o 2) := Prod.ext hcan.2.1.symm hcan.2.2.1.symm
    cases hf : gs.find? fun g => decide (kOf g = (col o 1, col o 2)) with
    | none =>
     have := List.find?_eq_none.1 hf g hg
     exact absurd (decide_eq_true hkey) this
    | some g' =>
     have hk' : kOf g' = (col o 1, col o 2) := of_decide_eq_true (List.find?_some (p := fun g => decide (kOf g = (col o 1, col o 2))) hf)
     have hm := List.mem_of_find?_eq_some hf
     have : g' = g := by
      obtain ⟨i, hi⟩ := List.mem_iff_getElem?.1 hm
      obtain ⟨j, hj⟩ := List.mem_iff_getElem?.1 hg
      obtain ⟨hi1, hi2⟩ := List.getElem?_eq_some_iff.1 hi
      obtain ⟨hj1, hj2⟩ := List.getElem?_eq_some_iff.1 hj
      have hp := List.pairwise_iff_getElem.1 hu
      rcases Nat.lt_trichotomy i j with hlt | hlt | hlt
      ·have := xtN (hp i j hi1 hj1 hlt)
       rw [hi2, hj2, hk', hkey] at this
       exact absurd rfl this
      ·subst hlt; rw [← hi2, ← hj2]
      ·have := xtN (hp j i hj1 hi1 hlt)
       rw [hi2, hj2, hk', hkey] at this
       exact absurd rfl this
     rw [this]; rfl
 have h0 := xz5 hs hc
 unfold size at h0
 have h1 := xwm (U := byF 0 gs) (L := om.filterMap (imA gs)) (p := fun x => decide (x ∈ om.filterMap (imA gs))) (xkU 0 gs) fun x hx => of_decide_eq_true hx
 have h2 := xwm (U := uB) (L := om.filterMap imB) (p := fun b => decide (b ∈ om.filterMap imB)) xzt fun x hx => of_decide_eq_true hx
 have h3 := xAB gs om
 exact Nat.le_trans h0 (Nat.le_trans (Nat.add_le_add h1 h2) h3)
theorem xtx {α : Type} {R : α → α → Prop} {l : List α} (h : l.Pairwise R) {i : Nat} (hi : i + 1 < l.length) : R l[i] l[i + 1] := List.pairwise_iff_getElem.1 h i (i + 1) (by omega) hi (by omega)
theorem xBt (office : List (List Int)) (logs : List ALog) (tm dl : Int) (list : List (List Int)) : xrW (xe4 office logs tm dl list) := by
 obtain ⟨ks, h1, _, h3⟩ := xnV office logs tm dl list
 rw [h3]
 unfold xrW
 rw [List.pairwise_map]
 exact h1
end Go.Proofs.YtikhnofbbcmpeaaGreat
set_option linter.unusedVariables false
set_option maxRecDepth 100000
namespace Go.Proofs.YtikhnofbbcmpeaaGreat
open Go Go.Sy
theorem xw2 {step : List U → Option (Nat × List U)} {l : List (List Int)} {p : List Int → Bool} (b : Bool) (m : Nat) (hs : ∀ i (hi : i < l.length), step [.b b, .i i] = bif p l[i] then some (1, []) else some (0, [.b b, .i ((i + 1 : Nat) : Int)]))
  (he : step [.b b, .i l.length] = some (m + 2, [.b b, .i l.length])) {init : List U} (hi : init = [.b b, .i ((0 : Nat) : Int)]) :
  xax step init ∧ (bif (xam step init).fst.beq 1 then true else false) = l.any p := by
 subst hi
 obtain ⟨h1, h2⟩ := xdC (step := step) l.length (fun i => p (l.getD i [])) (fun i => [.b b, .i i]) (fun i => []) 0 (m + 1) [.b b, .i l.length]
  (fun i hi => by rw [hs i hi, xaX hi]) he
 refine ⟨h1, ?_⟩
 rcases h2 with ⟨i, hi, hp, _, hg⟩ | ⟨hn, hg⟩
 ·rw [hg]
  have : l.any p = true := List.any_eq_true.2 ⟨l[i], List.getElem_mem hi, by rw [← xaX hi]; exact hp⟩
  rw [this]; rfl
 ·rw [hg]
  have : l.any p = false := List.any_eq_false.2 fun x hx => by
   obtain ⟨i, hi, rfl⟩ := List.getElem_of_mem hx
   have := hn i hi
   simp only [xaX hi] at this
   simp [this]
  rw [this]; rfl
theorem xus (x y : List Int) : xc3 (col x 0) (col x 1) (col x 2) (col y 0) (col y 1) (col y 2) = decide (cmp3 x y < 0) := by
 unfold xc3 cmp3
 generalize col x 0 = a
 generalize col x 1 = b
 generalize col x 2 = c
 generalize col y 0 = d
 generalize col y 1 = e
 generalize col y 2 = f
 rcases Int.lt_trichotomy a d with h | h | h
 ·rw [if_pos h, bne_iff_ne.2 (by omega), cond_true, decide_eq_true h]; rfl
 ·subst h
  rw [if_neg (Int.lt_irrefl _), if_neg (Int.lt_irrefl _), bne_self_eq_false', cond_false]
  rcases Int.lt_trichotomy b e with h | h | h
  ·rw [if_pos h, bne_iff_ne.2 (by omega), cond_true, decide_eq_true h]; rfl
  ·subst h
   rw [if_neg (Int.lt_irrefl _), if_neg (Int.lt_irrefl _), bne_self_eq_false', cond_false]
   rcases Int.lt_trichotomy c f with h | h | h
   ·rw [if_pos h, decide_eq_true h]; rfl
   ·subst h
    rw [if_neg (Int.lt_irrefl _), if_neg (Int.lt_irrefl _), decide_eq_false (Int.lt_irrefl _)]; rfl
   ·rw [if_neg (by omega), if_pos h, decide_eq_false (by omega)]; rfl
  ·rw [if_neg (by omega), if_pos h, bne_iff_ne.2 (by omega), cond_true, decide_eq_false (by omega)]; rfl
 ·rw [if_neg (by omega), if_pos h, bne_iff_ne.2 (by omega), cond_true, decide_eq_false (by omega)]; rfl
theorem xCr (g o : List Int) : xgi (col g 0) (col g 1) (col g 2 != 0) (col g 3 != 0) (col o 0) (col o 1) (col o 2) = canF g o := by
 unfold xgi canF
 generalize col o 0 = a
 generalize col o 1 = b
 generalize col o 2 = c
 generalize (col g 2 != 0) = s
 generalize (col g 3 != 0) = n
 by_cases h1 : a = 1
 ·subst h1
  cases s <;> cases hb : (b == 0) <;> cases hc : (c == col g 1) <;> rfl
 ·by_cases h2 : a = 2
  ·subst h2
   cases n <;> cases hb : (b == col g 0) <;> cases hc : (c == 0) <;> rfl
  ·rw [bne h1, bne h2]
   cases (a == 3) <;> cases (b == col g 0) <;> cases (c == col g 1) <;> rfl
def expF (gs om : List (List Int)) : Bool := xit cmp3 om && !(gs.any fun g => !om.any (canF g))
theorem xvI (gs om : List (List Int)) (hg : gs.length ≤ 9223372036854775807) (ho : om.length ≤ 9223372036854775807) : xdr gs om ∧ xdo gs om = expF gs om := by
 have A := xpP (step := xbh gs om) (l := om) (cf := cmp3) 1 (fun i hi => by
   have hw : IntKind.i64.wrap (((i + 1 : Nat) : Int) - 1) = ((i : Nat) : Int) := by rw [xe3 (by omega)]; omega
   unfold xbh
   simp only [gi_1, gi_z, gb_z, hw]
   rw [decide_eq_true (by omega), cond_true, xaa (xat (by omega)), xaa (xat (by omega)), xaa (xat hi), xaa (xat hi), xaM hi, xaM (show i < om.length by omega), xde (by omega)]
   rw [show ∀ x y : List Int, xc3 (x.getD 0 0) (x.getD 1 0) (x.getD 2 0) (y.getD 0 0) (y.getD 1 0) (y.getD 2 0) = decide (cmp3 x y < 0) from xus]
   have : (!decide (cmp3 om[i] om[i + 1] < 0)) = decide (cmp3 om[i] om[i + 1] ≥ 0) := by
    by_cases h : cmp3 om[i] om[i + 1] < 0
    ·rw [decide_eq_true h, decide_eq_false (by omega)]; rfl
    ·rw [decide_eq_false h, decide_eq_true (by omega)]; rfl
   rw [this])
  (fun n hn => by
   unfold xbh
   simp only [gi_1, gi_z, gb_z]
   rw [decide_eq_false hn, cond_false]) (init := xck gs om) rfl
 have B : ∀ b : Bool, xax (xaZ gs om) [.b b, .i ((0 : Nat) : Int)] ∧ (bif (xam (xaZ gs om) [.b b, .i ((0 : Nat) : Int)]).fst.beq 1 then true else false) = gs.any fun g => !om.any (canF g) := fun b =>
  xw2 (step := xaZ gs om) (l := gs) (p := fun g => !om.any (canF g)) b 1 (fun i hi => by
   have C := xBe (step := xcj gs om [.b b, .i i]) (l := om) (p := canF gs[i]) 1 (fun j c hj => by
     unfold xcj
     simp only [gi_1, gi_z, gb_z]
     rw [dlt hj, xaa (fun _ => xat hi), xaa (fun _ => xat hi), xaa (fun _ => xat hj), xaa (fun _ => xat hj), xaM hi, xaM hj, xde (by omega)]
     rw [show ∀ x y : List Int, xgi (x.getD 0 0) (x.getD 1 0) (x.getD 2 0 != 0) (x.getD 3 0 != 0) (y.getD 0 0) (y.getD 1 0) (y.getD 2 0) = canF x y from xCr])
    (fun c => by unfold xcj; simp only [gi_1, gi_z, gb_z, dnlt]) (init := xek gs om [.b b, .i i]) rfl
   have C2 : gb (xix gs om [.b b, .i i]).snd 0 = om.any (canF gs[i]) := C.2
   unfold xaZ
   rw [C2]
   simp only [gi_1, gi_z, gb_z]
   rw [dlt hi, xaa C.1, xde (by omega)])
  (by unfold xaZ; simp only [gi_1, gi_z, gb_z, dnlt]) rfl
 have B' := B (gb (xc8 gs om).snd 0)
 refine ⟨⟨A.1, fun _ => B'.1⟩, ?_⟩
 unfold xdo expF
 rw [← A.2, ← B'.2]
 show (bif (xam (xbh gs om) (xck gs om)).fst.beq 1 then false else bif (xam (xaZ gs om) [.b (gb (xc8 gs om).snd 0), .i ((0 : Nat) : Int)]).fst.beq 1 then false else true) = _
 cases (xam (xbh gs om) (xck gs om)).fst.beq 1 <;> cases (xam (xaZ gs om) [.b (gb (xc8 gs om).snd 0), .i ((0 : Nat) : Int)]).fst.beq 1 <;> rfl
def xkX : List (List Int) → List (List Int) → Bool
 | x :: a, y :: b => if eq3 x y = true then xkX a b else decide (cmp3 x y < 0)
 | _, _ => false
theorem xwB : ∀ {a b : List (List Int)} {i : Nat} (ha : i < a.length) (hb : i < b.length), (∀ j (h1 : j < a.length) (h2 : j < b.length), j < i → eq3 a[j] b[j] = true) → eq3 a[i] b[i] = false → xkX a b = decide (cmp3 a[i] b[i] < 0)
 | x :: a, y :: b, 0, ha, hb, hn, he => by
  have : eq3 x y = false := he
  show (if eq3 x y = true then xkX a b else decide (cmp3 x y < 0)) = _
  rw [this, if_neg (by decide)]; rfl
 | x :: a, y :: b, i + 1, ha, hb, hn, he => by
  have : eq3 x y = true := hn 0 (by simp) (by simp) (by omega)
  show (if eq3 x y = true then xkX a b else decide (cmp3 x y < 0)) = _
  rw [this, if_pos rfl]
  exact xwB (by simpa using ha) (by simpa using hb) (fun j h1 h2 h => hn (j + 1) (by simpa using h1) (by simpa using h2) (by omega)) he
theorem xwA : ∀ {a b : List (List Int)}, (∀ j (h1 : j < a.length) (h2 : j < b.length), eq3 a[j] b[j] = true) → xkX a b = false
 | [], [], _ => rfl
 | [], _ :: _, _ => rfl
 | _ :: _, [], _ => rfl
 | x :: a, y :: b, h => by
  have : eq3 x y = true := h 0 (by simp) (by simp)
  show (if eq3 x y = true then xkX a b else decide (cmp3 x y < 0)) = _
  rw [this, if_pos rfl]
  exact xwA fun j h1 h2 => h (j + 1) (by simpa using h1) (by simpa using h2)
theorem xAh (a b : List (List Int)) (hl : a.length = b.length) (ha : a.length ≤ 9223372036854775807) : xeF a b ∧ xgZ a b = xkX a b := by
 obtain ⟨h1, h2⟩ := xdC (step := xbL a b) a.length (fun i => !eq3 (a.getD i []) (b.getD i [])) (fun i => [.b false, .i i]) (fun i => [.b (decide (cmp3 (a.getD i []) (b.getD i []) < 0))]) 0 2 [.b false, .i a.length]
  (fun i hi => by
   have hi' : i < b.length := by omega
   unfold xbL
   simp only [gi_1, gi_z, gb_z]
   rw [dlt hi, xaa (xat hi), xaa (xat hi), xaa (xat hi'), xaa (xat hi'), xaa (xat hi), xaa (xat hi), xaa (xat hi'), xaa (xat hi'), xaM hi, xaM hi', xaX hi, xaX hi', xde (by omega)]
   rw [show ∀ x y : List Int, xc3 (x.getD 0 0) (x.getD 1 0) (x.getD 2 0) (y.getD 0 0) (y.getD 1 0) (y.getD 2 0) = decide (cmp3 x y < 0) from xus]
   rfl)
  (by unfold xbL; simp only [gi_1, gi_z, gb_z, dnlt])
 refine ⟨h1, ?_⟩
 show (bif (xam (xbL a b) [.b false, .i ((0 : Nat) : Int)]).fst.beq 1 then gb (xam (xbL a b) [.b false, .i ((0 : Nat) : Int)]).snd 0 else false) = _
 rcases h2 with ⟨i, hi, hp, hq, hg⟩ | ⟨hn, hg⟩
 ·rw [hg]
  have hi' : i < b.length := by omega
  rw [xwB hi hi' (fun j k1 k2 h => by
   have := hq j h
   rw [xaX k1, xaX k2] at this
   simpa using this) (by
   rw [xaX hi, xaX hi'] at hp
   simpa using hp)]
  rw [xaX hi, xaX hi']; rfl
 ·rw [hg]
  rw [xwA fun j k1 k2 => by
   have := hn j k1
   rw [xaX k1, xaX k2] at this
   simpa using this]
  rfl
end Go.Proofs.YtikhnofbbcmpeaaGreat
set_option linter.unusedVariables false
namespace Go.Proofs.YtikhnofbbcmpeaaGreat
open Go Go.Sy
theorem xxM {W : World} {own : Bool} {e : TypeId} {sz : Nat} {v : Value} {m : Nat} {vs : List Value} (h : xaY W own e sz v m vs) : m ≤ 9223372036854775807 := by
 obtain ⟨a, c, _, h1, h2⟩ := h.reads.is
 unfold maxLen at h2
 omega
theorem xAk {W : World} {own : Bool} {e : TypeId} {sz : Nat} {v : Value} {m : Nat} {vs : List Value} (h : xaY W own e sz v m vs) : v.oneCell' = true := by
 obtain ⟨a, c, rfl, _⟩ := h.reads.is
 rfl
theorem xA8 {W : World} {e : TypeId} {ks : List CK} {v : Value} {l : List (List Int)} (r : xaY W false e ks.length v l.length (rowV ks l)) (k : Nat) : v.oneCell' = true ∧ xa5 (.row e ks l) = true ∧ ∀ (E : Env), E k = v → xa2 E W k false (.row e ks l) :=
 ⟨xAk r, rfl, fun E he => by
  show xaY W false e ks.length (E k) l.length (rowV ks l)
  rw [he]; exact r⟩
theorem xDo {W : World} {e : TypeId} {ks : List NK} {v : Value} {l : List (List Int)} {vs : List Value} (r : xf8 W false e ks v l vs) (k : Nat) : v.oneCell' = true ∧ xa5 (.nst e ks l) = true ∧ ∀ (E : Env), E k = v → xa2 E W k false (.nst e ks l) :=
 ⟨xAk r.row, rfl, fun E he => by
  show ∃ vs, xf8 W false e ks (E k) l vs
  rw [he]; exact ⟨vs, r⟩⟩
theorem xB4 {W : World} {e e' : TypeId} {k0 : NK} {ks : List CK} {v : Value} {l : List (List Int)} {vs : List Value} (r : xf8 W false e [k0, .s e' ks] v l vs) : ∀ x ∈ l, (decL (x.getD 1 0)).length ≤ 9223372036854775807 := by
 intro x hx
 obtain ⟨i, hi, rfl⟩ := List.getElem_of_mem hx
 obtain ⟨u, _, hu⟩ := r.cell i 1 _ hi rfl
 have e1 : l.getD i [] = l[i] := by rw [List.getD_eq_getElem?_getD, List.getElem?_eq_getElem hi]; rfl
 rw [e1] at hu
 exact xxM hu.2
end Go.Proofs.YtikhnofbbcmpeaaGreat
set_option linter.unusedVariables false
set_option maxRecDepth 100000
namespace Go.Proofs.YtikhnofbbcmpeaaGreat
open Go Go.Sy
def xpz (n : Int) (l : List Int) : List Int := l.filter (fun x => decide (x < n)) ++ n :: l.filter (fun x => decide (n < x))
theorem xwF {l : List Int} (h : l.Pairwise (· < ·)) (n : Int) : (xpz n l).Pairwise (· < ·) := by
 unfold xpz
 rw [List.pairwise_append]
 refine ⟨h.filter _, List.pairwise_cons.2 ⟨fun x hx => by simpa using (List.mem_filter.1 hx).2, h.filter _⟩, fun a ha b hb => ?_⟩
 have h1 : a < n := by simpa using (List.mem_filter.1 ha).2
 rcases List.mem_cons.1 hb with rfl | hb
 ·exact h1
 ·have h2 : n < b := by simpa using (List.mem_filter.1 hb).2
  omega
theorem xxy (n : Int) (l : List Int) (x : Int) : x ∈ xpz n l ↔ x = n ∨ x ∈ l := by
 unfold xpz
 simp only [List.mem_append, List.mem_cons, List.mem_filter, decide_eq_true_eq]
 constructor
 ·rintro (⟨h, _⟩ | h | ⟨h, _⟩)
  ·exact .inr h
  ·exact .inl h
  ·exact .inr h
 ·rintro (h | h)
  ·exact .inr (.inl h)
  ·rcases Int.lt_trichotomy x n with h' | h' | h'
   ·exact .inl ⟨h, h'⟩
   ·exact .inr (.inl h')
   ·exact .inr (.inr ⟨h, h'⟩)
theorem xs7 (n : Int) (l : List Int) : (xpz n l).length ≤ l.length + 1 := by
 have : (l.filter (fun x => decide (x < n))).length + (l.filter (fun x => decide (n < x))).length ≤ l.length := by
  induction l with
  | nil => simp
  | cons x r ih =>
   rw [List.filter_cons, List.filter_cons]
   rcases Int.lt_trichotomy x n with h | h | h
   ·rw [if_pos (decide_eq_true h), if_neg (by simp; omega)]; simp only [List.length_cons]; omega
   ·rw [if_neg (by simp; omega), if_neg (by simp; omega)]; simp only [List.length_cons]; omega
   ·rw [if_neg (by simp; omega), if_pos (decide_eq_true h)]; simp only [List.length_cons]; omega
 unfold xpz
 rw [List.length_append, List.length_cons]
 omega
theorem xsM (p : Int → Bool) (l : List Int) : ((xaF l).filter fun x => p (col x 0)).map (fun x => [col x 0]) = xaF (l.filter p) := by
 induction l with
 | nil => rfl
 | cons x r ih =>
  show (([x] :: xaF r).filter fun x => p (col x 0)).map (fun x => [col x 0]) = _
  rw [List.filter_cons, List.filter_cons]
  have : p (col [x] 0) = p x := rfl
  rw [this]
  cases p x
  ·rw [if_neg (by decide), if_neg (by decide)]; exact ih
  ·rw [if_pos rfl, if_pos rfl, List.map_cons, ih]; rfl
theorem xBG (n : Int) (l : List Int) (hl : l.length ≤ 1000000) : xeb n (xaF l) ∧ xft n (xaF l) = xaF (xpz n l) := by
 have hlen : (xaF l).length = l.length := by unfold xaF; rw [List.length_map]
 have fit : ∀ (s : List (List Int)) (x : Int), s.length ≤ 2000000 → xbl 8 (s.length + [[x]].length) := fun s x h => by unfold xbl maxLen; simp only [List.length_cons, List.length_nil]; omega
 have L : ∀ (p : Int → Bool) (step : List U → Option (Nat × List U)) (s0 : List (List Int)), s0.length ≤ 1000001 →
   (∀ i s (hi : i < (xaF l).length), s.length ≤ 2000000 → step [.i i, .r s] = bif p (col (xaF l)[i] 0) then some (0, [.i ((i + 1 : Nat) : Int), .r (s ++ [[col (xaF l)[i] 0]])]) else some (0, [.i ((i + 1 : Nat) : Int), .r s])) →
   (∀ s, step [.i (xaF l).length, .r s] = some (3, [.i (xaF l).length, .r s])) →
   xax step [.i ((0 : Nat) : Int), .r s0] ∧ xam step [.i ((0 : Nat) : Int), .r s0] = (3, [.i (xaF l).length, .r (s0 ++ xaF (l.filter p))]) := fun p step s0 h0 h1 h2 => by
  obtain ⟨k1, k2⟩ := xbZ (step := step) (xaF l) (fun i (s : List (List Int)) => [.i i, .r s]) (fun s x => .inl (if (fun x => p (col x 0)) x = true then s ++ [[col x 0]] else s)) (fun i s => s.length ≤ s0.length + i) (fun s => (2, [.i (xaF l).length, .r s])) 0
   (fun i s hi _ hI => ⟨by
    rw [h1 i s hi (by omega)]
    cases hp : p (col (xaF l)[i] 0)
    ·simp only [hp]; rfl
    ·simp only [hp]; rfl, fun s' hs' => by
    cases hs'
    exact Nat.le_trans (xrB _ _ _) (by omega)⟩)
   (fun i s hi _ => by
    have : i = (xaF l).length := by omega
    subst this
    exact h2 s) (s := s0) (Nat.le_refl _)
  refine ⟨k1, ?_⟩
  rw [k2, List.drop_zero, xdV, xgJ, xsM]
  rfl
 obtain ⟨a1, a2⟩ := L (fun x => decide (x < n)) (xcL n (xaF l)) [] (by simp) (fun i s hi hs => by
  unfold xcL
  simp only [gi_z, gr_1, gr_z]
  rw [dlt hi, xaa (xat hi), xaa (xat hi), xaa (xat hi), xaa (xat hi), xaa (fit _ _ hs), xaM hi, xde (by omega)]) (fun s => by
  unfold xcL
  simp only [gi_z, gr_1, gr_z, dnlt])
 have hf : ∀ p : Int → Bool, (xaF (l.filter p)).length ≤ l.length := fun p => by unfold xaF; rw [List.length_map]; exact List.length_filter_le _ _
 have e1 : gr (xjd n (xaF l)).snd 1 = xaF (l.filter fun x => decide (x < n)) := by
  show gr (xam (xcL n (xaF l)) [.i ((0 : Nat) : Int), .r []]).snd 1 = _
  rw [a2]; rfl
 obtain ⟨b1, b2⟩ := L (fun x => decide (n < x)) (xdq n (xaF l)) (xaF (l.filter fun x => decide (x < n)) ++ [[n]]) (by
  have := hf fun x => decide (x < n)
  rw [List.length_append, List.length_cons, List.length_nil]; omega) (fun i s hi hs => by
  unfold xdq
  simp only [gi_z, gr_1, gr_z]
  rw [dlt hi, xaa (xat hi), xaa (xat hi), xaa (xat hi), xaa (xat hi), xaa (fit _ _ hs), xaM hi, xde (by omega)]) (fun s => by
  unfold xdq
  simp only [gi_z, gr_1, gr_z, dnlt])
 have e2 : xeA n (xaF l) = [.i ((0 : Nat) : Int), .r (xaF (l.filter fun x => decide (x < n)) ++ [[n]])] := by
  unfold xeA; rw [e1]; rfl
 unfold xeb xft xmp
 rw [e1, e2]
 refine ⟨⟨a1, fit _ _ (by have := hf fun x => decide (x < n); omega), b1⟩, ?_⟩
 rw [b2]
 show xaF (l.filter fun x => decide (x < n)) ++ [[n]] ++ xaF (l.filter fun x => decide (n < x)) = _
 unfold xpz xaF
 rw [List.map_append, List.map_cons, List.append_assoc]; rfl
def cntR (t dl : Int) (x : ALog) (c : List Int) : Bool := col c 0 == x.1 && decide (IntKind.i64.wrap (col c 2 + dl) ≤ t) && !hasR 3 (col c 1) 0 t x.2
def xht (t dl : Int) (x : ALog) (s : List Int) (chances : List (List Int)) : List Int := chances.foldl (fun s c => if cntR t dl x c = true then xpz (col c 1) s else s) s
theorem xgn (t dl : Int) (x : ALog) : ∀ (chances : List (List Int)) (s : List Int), s.Pairwise (· < ·) → (xht t dl x s chances).Pairwise (· < ·) ∧ (∀ y, y ∈ xht t dl x s chances ↔ y ∈ s ∨ ∃ c ∈ chances, cntR t dl x c = true ∧ col c 1 = y) ∧ (xht t dl x s chances).length ≤ s.length + chances.length
 | [], s, h => ⟨h, fun y => by simp [xht], Nat.le_refl _⟩
 | c :: r, s, h => by
  have e : xht t dl x s (c :: r) = xht t dl x (if cntR t dl x c = true then xpz (col c 1) s else s) r := rfl
  rw [e]
  by_cases hc : cntR t dl x c = true
  ·rw [if_pos hc]
   obtain ⟨h1, h2, h3⟩ := xgn t dl x r _ (xwF h (col c 1))
   refine ⟨h1, fun y => ?_, ?_⟩
   ·rw [h2, xxy]
    constructor
    ·rintro ((h | h) | ⟨d, hd, h⟩)
     ·exact .inr ⟨c, List.mem_cons_self, hc, h.symm⟩
     ·exact .inl h
     ·exact .inr ⟨d, List.mem_cons_of_mem _ hd, h⟩
    ·rintro (h | ⟨d, hd, h⟩)
     ·exact .inl (.inr h)
     ·rcases List.mem_cons.1 hd with rfl | hd
      ·exact .inl (.inl h.2.symm)
      ·exact .inr ⟨d, hd, h⟩
   ·have := xs7 (col c 1) s
    rw [List.length_cons]; omega
  ·rw [if_neg hc]
   obtain ⟨h1, h2, h3⟩ := xgn t dl x r s h
   refine ⟨h1, fun y => ?_, ?_⟩
   ·rw [h2]
    constructor
    ·rintro (h | ⟨d, hd, h⟩)
     ·exact .inl h
     ·exact .inr ⟨d, List.mem_cons_of_mem _ hd, h⟩
    ·rintro (h | ⟨d, hd, h⟩)
     ·exact .inl h
     ·rcases List.mem_cons.1 hd with rfl | hd
      ·exact absurd h.1 hc
      ·exact .inr ⟨d, hd, h⟩
   ·rw [List.length_cons]; omega
def xuJ (t dl : Int) (chances : List (List Int)) (x : ALog) : List (List Int) := (xht t dl x [] chances).map fun i => [x.1, i]
def xqX (t dl : Int) (chances : List (List Int)) (logs : List ALog) : List (List Int) := logs.flatMap (xuJ t dl chances)
theorem xtj (t dl : Int) (chances : List (List Int)) (x : ALog) : (xuJ t dl chances x).length ≤ chances.length := by
 unfold xuJ
 rw [List.length_map]
 have := (xgn t dl x chances [] List.Pairwise.nil).2.2
 simpa using this
theorem xrF {α β : Type} (g : α → List β) : ∀ (l : List α) (s : List β), l.foldl (fun s x => s ++ g x) s = s ++ l.flatMap g
 | [], s => by simp
 | x :: r, s => by rw [List.foldl_cons, xrF g r, List.flatMap_cons, List.append_assoc]
theorem xzH {t dl : Int} {ships chances : List (List Int)} (hs : ships.length ≤ 1000) (hc : chances.length ≤ 1000) (hd : xqQ ships) : xfd t dl ships chances ∧ xaz t dl ships chances = xqX t dl chances (xaA ships) := by
 have L1 : ∀ k (out : List (List Int)) (hk : k < ships.length), xax (xbX t dl ships chances [.i k, .r out]) (xfG t dl ships chances [.i k, .r out]) ∧ gr (xfH t dl ships chances [.i k, .r out]).snd 1 = xaF (xht t dl (xh7 ships[k]) [] chances) := fun k out hk => by
  obtain ⟨h1, h2⟩ := xbZ (step := xbX t dl ships chances [.i k, .r out]) chances (fun i (s : List Int) => [.i i, .r (xaF s)]) (fun s c => .inl (if cntR t dl (xh7 ships[k]) c = true then xpz (col c 1) s else s)) (fun i s => s.length ≤ i) (fun s => (2, [.i chances.length, .r (xaF s)])) 0
   (fun i s hi _ hI => by
    have hh := xAR (col ships[k] 0) 3 (col chances[i] 1) 0 t (decL (col ships[k] 1)) (hd _ (List.getElem_mem hk))
    have hw := xBG (col chances[i] 1) s (by omega)
    refine ⟨?_, fun s' hs' => ?_⟩
    ·have e : (chances[i].getD 0 0 == ships[k].getD 0 0 && decide (IntKind.i64.wrap (chances[i].getD 2 0 + dl) ≤ t) && !xeD (ships[k].getD 0 0) 3 (chances[i].getD 1 0) 0 t (decL (ships[k].getD 1 0))) = cntR t dl (xh7 ships[k]) chances[i] := by
      rw [show xeD (ships[k].getD 0 0) 3 (chances[i].getD 1 0) 0 t (decL (ships[k].getD 1 0)) = _ from hh.2]; rfl
     unfold xbX
     simp only [gi_z, gr_1, gr_z]
     rw [dlt hi, xaa (xat hi), xaa (xat hi), xaa (xat hk), xaa (xat hk), xaM hi, xaM hk, xaa hh.1, xaa (xat hk), xaa (xat hk), xaa (xat hk), e, xde (by omega)]
     cases cntR t dl (xh7 ships[k]) chances[i] with
     | false => rw [if_neg (by decide)]; rfl
     | true =>
      rw [if_pos rfl, cond_true, xaa hw.1, show xft (chances[i].getD 1 0) (xaF s) = _ from hw.2]; rfl
    ·cases hs'
     have := xs7 (col chances[i] 1) s
     split <;> omega)
   (fun i s hi _ => by
    have : i = chances.length := by omega
    subst this
    unfold xbX
    simp only [gi_z, gr_1, gr_z, dnlt]) (s := []) (Nat.zero_le _)
  refine ⟨h1, ?_⟩
  show gr (xam (xbX t dl ships chances [.i k, .r out]) [.i ((0 : Nat) : Int), .r (xaF [])]).snd 1 = _
  rw [h2, List.drop_zero, xdV]
  rfl
 obtain ⟨h1, h2⟩ := xbZ (step := xcK t dl ships chances) ships (fun k (out : List (List Int)) => [.i k, .r out]) (fun out x => .inl (out ++ xuJ t dl chances (xh7 x))) (fun k out => out.length ≤ 1000 * k) (fun out => (1, [.i ships.length, .r out])) 0
  (fun k out hk _ hI => by
   obtain ⟨a1, a2⟩ := L1 k out hk
   have hin : (xht t dl (xh7 ships[k]) [] chances).length ≤ chances.length := by
    have := (xgn t dl (xh7 ships[k]) chances [] List.Pairwise.nil).2.2
    simpa using this
   have hlen : (xaF (xht t dl (xh7 ships[k]) [] chances)).length ≤ 1000 := by unfold xaF; rw [List.length_map]; omega
   obtain ⟨b1, b2⟩ := xbZ (step := xbW t dl ships chances [.i k, .r out]) (xaF (xht t dl (xh7 ships[k]) [] chances)) (fun i (s : List (List Int)) => [.i i, .r s]) (fun s x => .inl (s ++ [[col ships[k] 0, col x 0]])) (fun i s => s.length ≤ out.length + i) (fun s => (1, [.i (xaF (xht t dl (xh7 ships[k]) [] chances)).length, .r s])) 0
    (fun i s hi _ hI' => by
     have hfit : ∀ x : List Int, xbl 16 (s.length + [x].length) := fun x => by unfold xbl maxLen; simp only [List.length_cons, List.length_nil]; omega
     refine ⟨?_, fun s' hs' => ?_⟩
     ·unfold xbW xjc
      rw [a2]
      simp only [gi_z, gr_1, gr_z]
      rw [dlt hi, xaa (xat hk), xaa (xat hk), xaa (xat hk), xaa (xat hi), xaa (xat hi), xaa (hfit _), xaM hi, xaM hk, xde (by omega)]
      rfl
     ·cases hs'
      rw [List.length_append, List.length_cons, List.length_nil]; omega)
    (fun i s hi _ => by
     have : i = (xaF (xht t dl (xh7 ships[k]) [] chances)).length := by omega
     subst this
     unfold xbW
     rw [a2]
     simp only [gi_z, gr_1, gr_z, dnlt]) (s := out) (Nat.le_refl _)
   have e2 : gr (xmo t dl ships chances [.i k, .r out]).snd 1 = out ++ xuJ t dl chances (xh7 ships[k]) := by
    show gr (xam (xbW t dl ships chances [.i k, .r out]) [.i ((0 : Nat) : Int), .r out]).snd 1 = _
    rw [b2, List.drop_zero, xdV]
    have : ∀ (l : List Int) (s : List (List Int)), (xaF l).foldl (fun s x => s ++ [[col ships[k] 0, col x 0]]) s = s ++ l.map fun i => [col ships[k] 0, i] := by
     intro l
     induction l with
     | nil => intro s; simp [xaF]
     | cons y r ih =>
      intro s
      show (xaF r).foldl _ (s ++ [[col ships[k] 0, y]]) = _
      rw [ih, List.map_cons, List.append_assoc]; rfl
    rw [this]; rfl
   refine ⟨?_, fun s' hs' => ?_⟩
   ·unfold xcK
    simp only [gi_z, gr_1, gr_z]
    rw [dlt hk, xaa a1, xaa (show xax (xbW t dl ships chances [.i k, .r out]) (xfF t dl ships chances [.i k, .r out]) from b1), e2, xde (by omega)]
    rfl
   ·cases hs'
    have := xtj t dl chances (xh7 ships[k])
    rw [List.length_append]; omega)
  (fun i s hi _ => by
   have : i = ships.length := by omega
   subst this
   unfold xcK
   simp only [gi_z, gr_1, gr_z, dnlt]) (s := []) (Nat.zero_le _)
 refine ⟨h1, ?_⟩
 show gr (xam (xcK t dl ships chances) [.i ((0 : Nat) : Int), .r []]).snd 1 = _
 rw [h2, List.drop_zero, xdV, xrF]
 show ([] ++ ships.flatMap fun x => xuJ t dl chances (xh7 x)) = _
 unfold xqX xaA
 rw [List.flatMap_map, List.nil_append]
theorem xpK (t : Int) : ∀ {l : List (List Int)}, l.Pairwise (fun a b => col a 0 ≤ col b 0) → ∀ n, n ∈ xj6 t l ↔ ∃ x ∈ l, col x 0 ≤ t ∧ col x 1 = 3 ∧ col x 2 = n
 | [], _, n => ⟨fun h => (by cases h), fun ⟨x, hx, _⟩ => (by cases hx)⟩
 | x :: r, h, n => by
  obtain ⟨h1, h2⟩ := List.pairwise_cons.1 h
  unfold xj6
  by_cases ht : col x 0 > t
  ·rw [if_pos ht]
   refine ⟨fun h => (by cases h), fun ⟨y, hy, h3, _⟩ => ?_⟩
   rcases List.mem_cons.1 hy with rfl | hy
   ·omega
   ·have := h1 y hy; omega
  ·rw [if_neg ht]
   by_cases h3 : col x 1 = 3
   ·rw [if_pos h3, List.mem_cons, xpK t h2]
    constructor
    ·rintro (hh | ⟨y, hy, hh⟩)
     ·exact ⟨x, List.mem_cons_self, by omega, h3, hh.symm⟩
     ·exact ⟨y, List.mem_cons_of_mem _ hy, hh⟩
    ·rintro ⟨y, hy, hh⟩
     rcases List.mem_cons.1 hy with e | hy
     ·rw [e] at hh; exact .inl hh.2.2.symm
     ·exact .inr ⟨y, hy, hh⟩
   ·rw [if_neg h3, xpK t h2]
    constructor
    ·rintro ⟨y, hy, hh⟩
     exact ⟨y, List.mem_cons_of_mem _ hy, hh⟩
    ·rintro ⟨y, hy, hh⟩
     rcases List.mem_cons.1 hy with e | hy
     ·rw [e] at hh; exact absurd hh.2.1 h3
     ·exact ⟨y, hy, hh⟩
theorem xyC {o : Int} {l : List (List Int)} (h : valF o l = true) (n t : Int) : hasR 3 n 0 t l = (xpJ t l).contains n := by
 have hv := xpg h
 rw [Bool.eq_iff_iff, List.contains_iff_mem]
 unfold xpJ
 rw [xx3, xpK t hv.2]
 unfold hasR
 rw [List.any_eq_true]
 constructor
 ·rintro ⟨x, hx, h⟩
  simp only [Bool.and_eq_true, beq_iff_eq, decide_eq_true_eq] at h
  exact ⟨x, hx, h.2, h.1.1.1, h.1.1.2⟩
 ·rintro ⟨x, hx, h1, h2, h3⟩
  refine ⟨x, hx, ?_⟩
  simp only [Bool.and_eq_true, beq_iff_eq, decide_eq_true_eq]
  exact ⟨⟨⟨h2, h3⟩, (hv.1 x hx).1⟩, h1⟩
theorem xzy {l : List (List Int)} (h : valF 0 l = true) (n : Int) : hasR 1 n 0 10000000 l = xuG n (-1) l := by
 refine xxs fun x hx => ?_
 obtain ⟨h1, h2, _⟩ := (xpg h).1 x hx
 have hk := xuO h x hx
 rw [hk] at h2
 have h3 : col x 0 ≤ 10000000 := by
  unfold lnF at h2
  rw [if_neg (by decide), if_neg (by decide)] at h2
  unfold tmF at h2
  simp only [Bool.and_eq_true, decide_eq_true_eq] at h2
  exact h2.1.2
 rw [hk, decide_eq_true h1, decide_eq_true h3]
 show (true && col x 2 == n && true && true) = (col x 2 == n && (true || col x 0 == -1))
 simp
theorem xy2 {logs : List ALog} {b : Int} (h : risF b logs = true) {x : ALog} (hx : x ∈ logs) : xdQ x.1 logs = some x := by
 induction logs generalizing b with
 | nil => cases hx
 | cons y r ih =>
  unfold xdQ
  rw [List.find?_cons]
  rcases List.mem_cons.1 hx with rfl | hx'
  ·rw [show (x.1 == x.1) = true from beq_self_eq_true _]
  ·have hr : risF y.1 r = true := by
    unfold risF at h
    simp only [Bool.and_eq_true] at h
    exact h.2
   have := (xlP hr x hx').2
   rw [show (y.1 == x.1) = false from bne (by omega)]
   exact ih hr hx'
theorem xAK {logs : List ALog} {t dl : Int} {c : List Int} (hris : risF 0 logs = true) {x : ALog} (hx : x ∈ logs) (he : col c 0 = x.1) (hw : IntKind.i64.wrap (col c 2 + dl) = col c 2 + dl) : cntR t dl x c = cntF logs t dl c := by
 unfold cntR cntF xr6
 have hf : xdQ (col c 0) logs = some x := by rw [he]; exact xy2 hris hx
 have hs : xj4 logs c = x.2 := by unfold xj4; rw [hf]; rfl
 rw [hs, he, beq_self_eq_true, hw, xyC (xlP hris x hx).1, Bool.not_or, Bool.true_and]
 have : decide (col c 2 + dl ≤ t) = !decide (col c 2 + dl > t) := by
  by_cases h : col c 2 + dl > t
  ·rw [decide_eq_true h, decide_eq_false (by omega)]; rfl
  ·rw [decide_eq_false h, decide_eq_true (by omega)]; rfl
 rw [this]
def xq4 (t dl : Int) (chances : List (List Int)) (logs : List ALog) : List Key := logs.flatMap fun x => (xht t dl x [] chances).map fun i => (x.1, i)
theorem xv9 (t dl : Int) (chances : List (List Int)) : ∀ (logs : List ALog) (b : Int), risF b logs = true → (xq4 t dl chances logs).Pairwise ltK ∧ ∀ k ∈ xq4 t dl chances logs, b < k.1
 | [], b, _ => ⟨List.Pairwise.nil, fun k hk => (by cases hk)⟩
 | x :: r, b, h => by
  have hr : risF x.1 r = true := by
   unfold risF at h
   simp only [Bool.and_eq_true] at h
   exact h.2
  have hb := (xlP h x List.mem_cons_self).2
  obtain ⟨h1, h2⟩ := xv9 t dl chances r x.1 hr
  have e : xq4 t dl chances (x :: r) = (xht t dl x [] chances).map (fun i => (x.1, i)) ++ xq4 t dl chances r := by unfold xq4; rw [List.flatMap_cons]
  rw [e]
  refine ⟨List.pairwise_append.2 ⟨?_, h1, fun a ha c hc => ?_⟩, fun k hk => ?_⟩
  ·rw [List.pairwise_map]
   exact (xgn t dl x chances [] List.Pairwise.nil).1.imp fun h => Or.inr ⟨rfl, h⟩
  ·obtain ⟨i, hi, rfl⟩ := List.mem_map.1 ha
   exact Or.inl (h2 c hc)
  ·rcases List.mem_append.1 hk with hk | hk
   ·obtain ⟨i, hi, rfl⟩ := List.mem_map.1 hk
    exact hb
   ·have := h2 k hk
    omega
theorem xBd (a : Key) : ¬ ltK a a := fun h => xtN h rfl
theorem xzP (a b : Key) (h : ltK a b) : ¬ ltK b a := fun k => by unfold ltK at h k; omega
theorem xzT {t dl : Int} {chances : List (List Int)} {logs : List ALog} (hris : risF 0 logs = true) (hf : ∀ c ∈ chances, ∃ x, xdQ (col c 0) logs = some x) (hw : ∀ c ∈ chances, IntKind.i64.wrap (col c 2 + dl) = col c 2 + dl)
  {ks : List Key} (h1 : ks.Pairwise ltK) (h2 : ∀ k, k ∈ ks ↔ ∃ c ∈ chances, cntF logs t dl c = true ∧ kOf c = k) : xq4 t dl chances logs = ks := by
 refine xtr xBd xzP (xv9 t dl chances logs 0 hris).1 h1 fun k => ?_
 rw [h2]
 unfold xq4
 rw [List.mem_flatMap]
 constructor
 ·rintro ⟨x, hx, hk⟩
  obtain ⟨i, hi, rfl⟩ := List.mem_map.1 hk
  rcases ((xgn t dl x chances [] List.Pairwise.nil).2.1 i).1 hi with h | ⟨c, hc, h3, h4⟩
  ·cases h
  ·have he : col c 0 = x.1 := by
    unfold cntR at h3
    simp only [Bool.and_eq_true, beq_iff_eq] at h3
    exact h3.1.1
   exact ⟨c, hc, by rw [← xAK hris hx he (hw c hc)]; exact h3, by unfold kOf; rw [he, h4]⟩
 ·rintro ⟨c, hc, h3, rfl⟩
  obtain ⟨x, hx⟩ := hf c hc
  have he : x.1 = col c 0 := by simpa using List.find?_some hx
  have hm := List.mem_of_find?_eq_some hx
  refine ⟨x, hm, List.mem_map.2 ⟨col c 1, ((xgn t dl x chances [] List.Pairwise.nil).2.1 _).2 (.inr ⟨c, hc, by rw [xAK hris hm he.symm (hw c hc)]; exact h3, rfl⟩), by unfold kOf; rw [he]⟩⟩
theorem xtk (t dl : Int) (chances : List (List Int)) (logs : List ALog) : xqX t dl chances logs = (xq4 t dl chances logs).map fun k => [k.1, k.2] := by
 unfold xqX xq4
 rw [List.map_flatMap]
 congr 1
 funext x
 unfold xuJ
 rw [List.map_map]; rfl
def rOnB (t dl : Int) (l : List (List Int)) (k : Key) (c : List Int) : Bool := !(col c 0 != k.1 || col c 1 != k.2 || decide (IntKind.i64.wrap (col c 2 + dl) > t)) && (!offR (col c 2) l && decide ((l.length : Int) > 0) && decide (xnH 0 (-1) l ≥ col c 2))
theorem xyr {l : List (List Int)} (h : (l.length : Int) > 0) : IntKind.i64.wrap ((l.length : Int) - 1) = ((l.length - 1 : Nat) : Int) ∨ l.length > 9223372036854775807 := by
 by_cases h' : l.length > 9223372036854775807
 ·exact .inr h'
 ·left
  rw [xe3 (by omega)]; omega
theorem xDu {so t dl : Int} {l chances : List (List Int)} (k : Key) (hl : l.length ≤ 9223372036854775807) (hc : chances.length ≤ 9223372036854775807) : xfu so t dl k.1 k.2 l chances ∧ xiu so t dl k.1 k.2 l chances = !chances.any (rOnB t dl l k) := by
 obtain ⟨h1, h2⟩ := xdC (step := xdn so t dl k.1 k.2 l chances) chances.length (fun i => rOnB t dl l k (chances.getD i [])) (fun i => [.b false, .i i]) (fun i => []) 1 3 [.b false, .i chances.length]
  (fun i hi => by
   have ho := xCB so (col chances[i] 2) l hl
   have hin : ∀ b : Bool, (b && decide ((l.length : Int) > 0)) = true → inR (IntKind.i64.wrap ((l.length : Int) - 1)) l := fun b h => by
    rw [Bool.and_eq_true, decide_eq_true_eq] at h
    rcases xyr h.2 with h' | h'
    ·rw [h']; exact xat (by omega)
    ·omega
   have hlast : (l.length : Int) > 0 → (l.getD (IntKind.i64.wrap ((l.length : Int) - 1)).toNat []).getD 0 0 = xnH 0 (-1) l := fun h => by
    rcases xyr h with h' | h'
    ·rw [h', xaM (by omega)]
     unfold xnH
     rw [List.getLast?_eq_getElem?, List.getElem?_eq_getElem (by omega)]
    ·omega
   rw [xaX hi]
   unfold xdn
   simp only [gi_1, gi_z, gb_z]
   rw [dlt hi, xaa (xat hi), xaa (xat hi), xaM hi, xde (by omega)]
   unfold rOnB
   generalize hx : (col chances[i] 0 != k.1 || col chances[i] 1 != k.2 || decide (IntKind.i64.wrap (col chances[i] 2 + dl) > t)) = x
   cases x with
   | true => rfl
   | false =>
    rw [xaa ho.1, xaa (hin _), xaa (hin _), xaa (hin _), show xdW so (chances[i].getD 2 0) l = _ from ho.2]
    by_cases h0 : (l.length : Int) > 0
    ·rw [hlast h0]; rfl
    ·rw [decide_eq_false h0, Bool.and_false, Bool.false_and, Bool.false_and]; rfl)
  (by unfold xdn; simp only [gi_1, gi_z, gb_z, dnlt])
 refine ⟨h1, ?_⟩
 show (bif (xam (xdn so t dl k.1 k.2 l chances) [.b false, .i ((0 : Nat) : Int)]).fst.beq 2 then false else true) = _
 rcases h2 with ⟨i, hi, hp, _, hg⟩ | ⟨hn, hg⟩
 ·rw [hg]
  have : chances.any (rOnB t dl l k) = true := List.any_eq_true.2 ⟨chances[i], List.getElem_mem hi, by rw [← xaX hi]; exact hp⟩
  rw [this]; rfl
 ·rw [hg]
  have : chances.any (rOnB t dl l k) = false := List.any_eq_false.2 fun x hx => by
   obtain ⟨i, hi, rfl⟩ := List.getElem_of_mem hx
   have := hn i hi
   simp only [xaX hi] at this
   simp [this]
  rw [this]; rfl
def mkR (office : List (List Int)) (t dl : Int) (chances : List (List Int)) (logs : List ALog) (k : Key) : List Int :=
 [k.1, k.2, b2 (!hasR 1 k.2 0 10000000 office), b2 (!chances.any (rOnB t dl (((xdQ k.1 logs).getD (0, [])).2) k))]
theorem xB2 {office : List (List Int)} {t dl : Int} {chances : List (List Int)} {logs : List ALog} (ho : valF 0 office = true) (hris : risF 0 logs = true) (hch : chF chances = true) (hf : ∀ c ∈ chances, ∃ x, xdQ (col c 0) logs = some x) (hw : ∀ c ∈ chances, IntKind.i64.wrap (col c 2 + dl) = col c 2 + dl)
  {k : Key} (hk : ∃ c ∈ chances, cntF logs t dl c = true ∧ kOf c = k) : mkR office t dl chances logs k = mkG office logs t dl chances k := by
 obtain ⟨c0, hc0, hcnt0, rfl⟩ := hk
 obtain ⟨x, hx⟩ := hf c0 hc0
 have hxm := List.mem_of_find?_eq_some hx
 have hval := (xlP hris x hxm).1
 have hk1 : (kOf c0).1 = col c0 0 := rfl
 unfold mkR mkG
 rw [xzy ho, hk1, hx]
 have key : chances.any (rOnB t dl ((some x).getD (0, [])).2 (kOf c0)) = !(chances.all fun c => !(cntF logs t dl c && decide (kOf c = kOf c0)) || offF logs c) := by
  rw [Bool.eq_iff_iff, List.any_eq_true, Bool.not_eq_true', List.all_eq_false]
  have each : ∀ c ∈ chances, (rOnB t dl x.2 (kOf c0) c = true ↔ ¬ ((!(cntF logs t dl c && decide (kOf c = kOf c0)) || offF logs c) = true)) := fun c hc => by
   obtain ⟨q1, q2, q3, q4, q5, q6⟩ := (xnb hch).2 c hc
   by_cases hkc : kOf c = kOf c0
   ·have e0 : col c 0 = col c0 0 := congrArg Prod.fst hkc
    have e1 : col c 1 = col c0 1 := congrArg Prod.snd hkc
    have hs : xj4 logs c = x.2 := by unfold xj4; rw [e0, hx]; rfl
    have hs0 : xj4 logs c0 = x.2 := by unfold xj4; rw [hx]; rfl
    have hcnt : cntF logs t dl c = decide (col c 2 + dl ≤ t) := by
     unfold cntF xr6 at hcnt0 ⊢
     rw [hs0, Bool.not_or, Bool.and_eq_true] at hcnt0
     rw [hs, e1, Bool.not_or, hcnt0.2, Bool.and_true]
     by_cases h : col c 2 + dl > t
     ·rw [decide_eq_true h, decide_eq_false (by omega)]; rfl
     ·rw [decide_eq_false h, decide_eq_true (by omega)]; rfl
    have hoff : (!offR (col c 2) x.2 && decide ((x.2.length : Int) > 0) && decide (xnH 0 (-1) x.2 ≥ col c 2)) = !offF logs c := by
     unfold offF
     rw [hs, xBV hval, Bool.not_not, Bool.not_or, Bool.not_not]
     by_cases h0 : x.2 = []
     ·rw [h0]
      have : xnH 0 (-1) ([] : List (List Int)) = -1 := rfl
      rw [this, decide_eq_true (show (-1 : Int) < col c 2 by omega)]
      simp
     ·have : 0 < x.2.length := List.length_pos_iff.2 h0
      rw [decide_eq_true (show (x.2.length : Int) > 0 by omega), Bool.and_true, Bool.and_comm]
      congr 1
      by_cases h : xnH 0 (-1) x.2 < col c 2
      ·rw [decide_eq_true h, decide_eq_false (by omega)]; rfl
      ·rw [decide_eq_false h, decide_eq_true (by omega)]; rfl
    unfold rOnB
    rw [hoff, hcnt, decide_eq_true hkc, Bool.and_true, hw c hc]
    have a0 : (col c 0 != (kOf c0).1) = false := by rw [show (kOf c0).1 = col c0 0 from rfl, e0]; simp
    have a1 : (col c 1 != (kOf c0).2) = false := by rw [show (kOf c0).2 = col c0 1 from rfl, e1]; simp
    rw [a0, a1, Bool.false_or, Bool.false_or]
    have : decide (col c 2 + dl ≤ t) = !decide (col c 2 + dl > t) := by
     by_cases h : col c 2 + dl > t
     ·rw [decide_eq_true h, decide_eq_false (by omega)]; rfl
     ·rw [decide_eq_false h, decide_eq_true (by omega)]; rfl
    rw [this]
    cases decide (col c 2 + dl > t) <;> cases offF logs c <;> simp
   ·have a : (col c 0 != (kOf c0).1 || col c 1 != (kOf c0).2) = true := by
     rw [Bool.or_eq_true, bne_iff_ne, bne_iff_ne]
     by_cases e : col c 0 = (kOf c0).1
     ·right; intro e1; exact hkc (Prod.ext e e1)
     ·exact .inl e
    unfold rOnB
    rw [a, decide_eq_false hkc, Bool.and_false]
    simp
  constructor
  ·rintro ⟨c, hc, h⟩
   exact ⟨c, hc, (each c hc).1 h⟩
  ·rintro ⟨c, hc, h⟩
   exact ⟨c, hc, (each c hc).2 h⟩
 rw [key, Bool.not_not]
theorem xwS {office : List (List Int)} {t dl : Int} {chances : List (List Int)} {logs : List ALog} (ho : valF 0 office = true) (hris : risF 0 logs = true) (hch : chF chances = true) (hf : ∀ c ∈ chances, ∃ x, xdQ (col c 0) logs = some x) (hw : ∀ c ∈ chances, IntKind.i64.wrap (col c 2 + dl) = col c 2 + dl) :
  (xq4 t dl chances logs).map (mkR office t dl chances logs) = xe4 office logs t dl chances ∧ xqX t dl chances logs = xjq (xe4 office logs t dl chances) := by
 obtain ⟨ks, k1, k2, k3⟩ := xnV office logs t dl chances
 have e := xzT hris hf hw k1 k2
 refine ⟨?_, ?_⟩
 ·rw [e, k3]
  exact List.map_congr_left fun k hk => xB2 ho hris hch hf hw ((k2 k).1 hk)
 ·rw [xtk, e, k3]
  unfold xjq
  rw [List.map_map]; rfl
end Go.Proofs.YtikhnofbbcmpeaaGreat
set_option linter.unusedVariables false
set_option maxRecDepth 100000
namespace Go.Proofs.YtikhnofbbcmpeaaGreat
open Go Go.Sy
theorem xz3 {gs om : List (List Int)} (he : expF gs om = true) : ∀ g ∈ gs, ∃ o ∈ om, canF g o = true := fun g hg => by
 unfold expF at he
 rw [Bool.and_eq_true, Bool.not_eq_true', List.any_eq_false] at he
 have := he.2 g hg
 cases ha : om.any (canF g) with
 | true => exact List.any_eq_true.1 ha
 | false => rw [ha] at this; exact absurd rfl this
theorem xz8 (m : Nat) (gs : List (List Int)) : xit cmp3 (byF m gs) = true := (xis _ _).2 fun i hi => by
 rw [← xws, xwr]
 exact xtx (xpv m gs).1 hi
def lt3 (x y : List Int) : Prop := col x 0 < col y 0 ∨ (col x 0 = col y 0 ∧ (col x 1 < col y 1 ∨ (col x 1 = col y 1 ∧ col x 2 < col y 2)))
theorem xvo (x y : List Int) : cmp3 x y < 0 ↔ lt3 x y := by
 unfold cmp3 lt3
 generalize col x 0 = a
 generalize col x 1 = b
 generalize col x 2 = c
 generalize col y 0 = d
 generalize col y 1 = e
 generalize col y 2 = f
 split
 ·omega
 ·split
  ·omega
  ·split
   ·omega
   ·split
    ·omega
    ·split
     ·omega
     ·split <;> omega
theorem xkR (x y : List Int) : cmp3 x y = 0 ↔ (col x 0 = col y 0 ∧ col x 1 = col y 1 ∧ col x 2 = col y 2) := by rw [← xws]; exact xpu x y
theorem xBC (x y : List Int) : eq3 x y = true ↔ cmp3 x y = 0 := by
 rw [xkR]
 unfold eq3
 simp only [Bool.and_eq_true, beq_iff_eq, and_true]
theorem xuw : ∀ {x y : List (List Int)}, x.length = y.length → xkX x y = true → xpf x y < 0
 | [], [], _, h => by cases h
 | a :: x, b :: y, hl, h => by
  have h : (if eq3 a b = true then xkX x y else decide (cmp3 a b < 0)) = true := h
  unfold xpf
  by_cases e : eq3 a b = true
  ·rw [if_pos e] at h
   rw [if_pos ((xBC a b).1 e)]
   exact xuw (by simpa using hl) h
  ·rw [if_neg e] at h
   have h := of_decide_eq_true h
   rw [if_neg (by omega)]
   exact h
theorem xwo : ∀ {x y : List (List Int)}, x.length = y.length → (∀ a ∈ x, a.length = 3) → (∀ a ∈ y, a.length = 3) → xpf x y < 0 ∨ x = y ∨ xpf y x < 0
 | [], [], _, _, _ => .inr (.inl rfl)
 | a :: x, b :: y, hl, h1, h2 => by
  unfold xpf
  by_cases e : cmp3 a b = 0
  ·have e0 := (xkR a b).1 e
   have hab : a = b := xph (h1 a List.mem_cons_self) (h2 b List.mem_cons_self) e0.1 e0.2.1 e0.2.2
   subst hab
   rw [if_pos e, if_pos e]
   rcases xwo (x := x) (y := y) (by simpa using hl) (fun a ha => h1 a (List.mem_cons_of_mem _ ha)) (fun a ha => h2 a (List.mem_cons_of_mem _ ha)) with h | h | h
   ·exact .inl h
   ·exact .inr (.inl (by rw [h]))
   ·exact .inr (.inr h)
  ·have e' : ¬ cmp3 b a = 0 := fun h => e ((xkR a b).2 (by have := (xkR b a).1 h; omega))
   rw [if_neg e, if_neg e']
   by_cases hlt : cmp3 a b < 0
   ·exact .inl hlt
   ·right; right
    rw [xvo] at hlt ⊢
    have e2 : ¬ (col a 0 = col b 0 ∧ col a 1 = col b 1 ∧ col a 2 = col b 2) := fun h => e ((xkR a b).2 h)
    clear e e'
    unfold lt3 at *
    omega
theorem xrP : ∀ {x y : List (List Int)}, x.length = y.length → xpf x y < 0 → ∃ i, ∃ (h : i < x.length) (h' : i < y.length), lt3 x[i] y[i]
 | [], [], _, h => by cases h
 | a :: x, b :: y, hl, h => by
  unfold xpf at h
  by_cases e : cmp3 a b = 0
  ·rw [if_pos e] at h
   obtain ⟨i, h1, h2, h3⟩ := xrP (by simpa using hl) h
   exact ⟨i + 1, by simpa using h1, by simpa using h2, h3⟩
  ·rw [if_neg e] at h
   exact ⟨0, by simp, by simp, (xvo a b).1 h⟩
theorem xyk {x y z : List Int} (h : lt3 x y) (k : lt3 y z) : lt3 x z := by unfold lt3 at *; omega
theorem xxN {l : List (List Int)} (h : xit cmp3 l = true) : l.Pairwise lt3 := by
 have h' := (xis _ _).1 h
 induction l with
 | nil => exact List.Pairwise.nil
 | cons x r ih =>
  have ihr := ih ((xis _ _).2 fun i hi => h' (i + 1) (by simpa using hi)) fun i hi => h' (i + 1) (by simpa using hi)
  refine List.pairwise_cons.2 ⟨fun y hy => ?_, ihr⟩
  cases r with
  | nil => cases hy
  | cons z r =>
   have hz : lt3 x z := (xvo _ _).1 (h' 0 (by simp))
   rcases List.mem_cons.1 hy with rfl | hy
   ·exact hz
   ·exact xyk hz ((List.pairwise_cons.1 ihr).1 y hy)
theorem xw1 {A B : List (List Int)} (hA : A.Pairwise lt3) (hB : B.Pairwise lt3) (hl : A.length = B.length) (f : List Int → List Int) (h : ∀ x ∈ A, ∃ o ∈ B, f o = x ∧ ¬ lt3 o x) : ¬ xpf B A < 0 := fun hc => by
 obtain ⟨i, h1, h2, h3⟩ := xrP hl.symm hc
 have hn : (A.drop i).Nodup := (hA.sublist (List.drop_sublist i A)).imp fun h e => by subst e; unfold lt3 at h; omega
 have hsub : ∀ x ∈ A.drop i, x ∈ (B.drop (i + 1)).map f := fun x hx => by
  obtain ⟨j, hj, rfl⟩ := List.getElem_of_mem hx
  rw [List.length_drop] at hj
  rw [List.getElem_drop] at hx ⊢
  have hij : ¬ lt3 A[i + j] A[i] := fun hlt => by
   by_cases h0 : j = 0
   ·subst h0; unfold lt3 at hlt; simp only [Nat.add_zero] at hlt; omega
   ·have := List.pairwise_iff_getElem.1 hA i (i + j) h2 (by omega) (by omega)
    unfold lt3 at *; omega
  obtain ⟨o, ho, hf, hlt⟩ := h A[i + j] (List.getElem_mem _)
  obtain ⟨k, hk, rfl⟩ := List.getElem_of_mem ho
  have hki : i < k := by
   apply Nat.lt_of_not_le
   intro hki
   apply hlt
   have a : ¬ lt3 B[i] B[k] := fun hlt' => by
    by_cases h0 : k = i
    ·subst h0; unfold lt3 at hlt'; omega
    ·have := List.pairwise_iff_getElem.1 hB k i hk h1 (by omega)
     unfold lt3 at *; omega
   unfold lt3 at *
   omega
  rw [← hf]
  refine List.mem_map.2 ⟨B[k], ?_, rfl⟩
  have : B[k] = (B.drop (i + 1))[k - (i + 1)]'(by rw [List.length_drop]; omega) := by
   rw [List.getElem_drop]
   congr 1
   omega
  rw [this]
  exact List.getElem_mem _
 have := xdY hn hsub
 rw [List.length_map, List.length_drop, List.length_drop] at this
 omega
theorem xzS {gs : List (List Int)} (hu : xrW gs) {g h : List Int} (hg : g ∈ gs) (hh : h ∈ gs) (he : kOf g = kOf h) : g = h := by
 induction gs with
 | nil => cases hg
 | cons x r ih =>
  obtain ⟨h1, h2⟩ := List.pairwise_cons.1 hu
  rcases List.mem_cons.1 hg with rfl | hg' <;> rcases List.mem_cons.1 hh with rfl | hh'
  ·rfl
  ·exact absurd he (xtN (h1 _ hh'))
  ·exact absurd he.symm (xtN (h1 _ hg'))
  ·exact ih h2 hg' hh'
def backF (gs : List (List Int)) (o : List Int) : List Int :=
 if col o 0 = 1 then [1, 0, col o 2] else if col o 0 = 2 then [2, col o 1, 0] else ((gs.find? fun g => decide (kOf g = (col o 1, col o 2))).map lft).getD o
def xoU (om : List (List Int)) : Nat := mask ((List.range 9).map fun k : Nat => om.any fun o => col o 0 == 2 && col o 1 == (k : Int) && col o 2 == 0)
theorem xv3 (om : List (List Int)) : xoU om < 512 := by
 have := xuY ((List.range 9).map fun k : Nat => om.any fun o => col o 0 == 2 && col o 1 == (k : Int) && col o 2 == 0)
 rw [List.length_map, List.length_range] at this
 exact this
theorem xtL (om : List (List Int)) {k : Nat} (hk : k < 9) : (xoU om).testBit k = om.any fun o => col o 0 == 2 && col o 1 == (k : Int) && col o 2 == 0 := by
 unfold xoU
 rw [xst, List.getD_eq_getElem?_getD, List.getElem?_map, List.getElem?_range hk]
 rfl
theorem xzo {gs om : List (List Int)} (hs : xeS gs) (hu : xrW gs) (he : ∀ g ∈ gs, ∃ o ∈ om, canF g o = true) : ∀ x ∈ byF (xoU om) gs, ∃ o ∈ om, backF gs o = x ∧ ¬ lt3 o x := fun x hx => by
 rcases (xkV (xoU om) gs x).1 hx with ⟨k, hk, hb, rfl⟩ | ⟨g, hg, hc, rfl⟩
 ·rw [xtL om hk, List.any_eq_true] at hb
  obtain ⟨o, ho, hb⟩ := hb
  simp only [Bool.and_eq_true, beq_iff_eq] at hb
  obtain ⟨⟨b0, b1⟩, b2⟩ := hb
  refine ⟨o, ho, ?_, ?_⟩
  ·unfold backF rOn
   rw [if_neg (by omega), if_pos b0, b1]
  ·unfold lt3 rOn
   show ¬ (col o 0 < 2 ∨ (col o 0 = 2 ∧ (col o 1 < (k : Int) ∨ (col o 1 = (k : Int) ∧ col o 2 < 0))))
   omega
 ·obtain ⟨o, ho, hcan⟩ := he g hg
  obtain ⟨s1, s2⟩ := hs g hg
  refine ⟨o, ho, ?_⟩
  unfold canF at hcan
  by_cases a1 : (col o 0 == 1 && (col o 1 == 0 && (col o 2 == col g 1 && true))) = true
  ·rw [a1, cond_true] at hcan
   simp only [Bool.and_eq_true, beq_iff_eq, and_true] at a1
   obtain ⟨b0, b1, b2⟩ := a1
   have h2 : ¬ col g 2 = 0 := by simpa using hcan
   have hl : lft g = [1, 0, col g 1] := by unfold lft; rw [if_neg h2]
   rw [hl]
   refine ⟨?_, ?_⟩
   ·unfold backF; rw [if_pos b0, b2]
   ·unfold lt3
    show ¬ (col o 0 < 1 ∨ (col o 0 = 1 ∧ (col o 1 < 0 ∨ (col o 1 = 0 ∧ col o 2 < col g 1))))
    omega
  ·rw [Bool.eq_false_iff.2 a1, cond_false] at hcan
   by_cases a2 : (col o 0 == 2 && (col o 1 == col g 0 && (col o 2 == 0 && true))) = true
   ·rw [a2, cond_true] at hcan
    exfalso
    have hb : (xoU om).testBit (col g 0).toNat = true := by
     rw [xtL om (by omega), List.any_eq_true]
     refine ⟨o, ho, ?_⟩
     simp only [Bool.and_eq_true, beq_iff_eq, and_true] at a2 ⊢
     omega
    unfold cov at hc
    rw [hb, hcan] at hc
    cases hc
   ·rw [Bool.eq_false_iff.2 a2, cond_false] at hcan
    simp only [Bool.and_eq_true, beq_iff_eq, and_true] at hcan
    obtain ⟨b0, b1, b2⟩ := hcan
    have hfind : (gs.find? fun h => decide (kOf h = (col o 1, col o 2))) = some g := by
     cases hf : gs.find? fun h => decide (kOf h = (col o 1, col o 2)) with
     | none =>
      have := List.find?_eq_none.1 hf g hg
      exact absurd (decide_eq_true (show kOf g = (col o 1, col o 2) by unfold kOf; rw [b1, b2])) this
     | some h =>
      have h1 := List.find?_some hf
      have h1 : kOf h = (col o 1, col o 2) := of_decide_eq_true h1
      rw [xzS hu (List.mem_of_find?_eq_some hf) hg (by rw [h1, b1, b2]; rfl)]
    refine ⟨?_, ?_⟩
    ·unfold backF
     rw [if_neg (by omega), if_neg (by omega), hfind]; rfl
    ·unfold lft
     split
     ·unfold lt3
      show ¬ (col o 0 < 3 ∨ (col o 0 = 3 ∧ (col o 1 < col g 0 ∨ (col o 1 = col g 0 ∧ col o 2 < col g 1))))
      omega
     ·unfold lt3
      show ¬ (col o 0 < 1 ∨ (col o 0 = 1 ∧ (col o 1 < 0 ∨ (col o 1 = 0 ∧ col o 2 < col g 1))))
      omega
theorem xya {gs om : List (List Int)} (hs : xeS gs) (hu : xrW gs) (he : expF gs om = true) : (fewF gs).length ≤ om.length ∧ (om.length = (fewF gs).length → xkX om (fewF gs) = false) := by
 have hex := xz3 he
 have hge := xBB hs hu hex
 refine ⟨hge, fun hl => ?_⟩
 have hback := xzo hs hu hex
 have hBm : om.Pairwise lt3 := by
  unfold expF at he
  rw [Bool.and_eq_true] at he
  exact xxN he.1
 have hAm := xxN (xz8 (xoU om) gs)
 have hlen : (byF (xoU om) gs).length ≤ om.length := by
  have := xdY (xkU (xoU om) gs) (l' := om.map (backF gs)) fun x hx => by
   obtain ⟨o, ho, hf, _⟩ := hback x hx
   exact List.mem_map.2 ⟨o, ho, hf⟩
  rwa [List.length_map] at this
 have hle := xy6 hs (xv3 om)
 have hno := xw1 hAm hBm (by omega) (backF gs) hback
 obtain ⟨⟨m, hm, hfm⟩, hbest⟩ := xt9 hs
 have hb := hbest (xoU om) (xv3 om)
 rw [xur] at hb
 unfold xs4 at hb
 rw [Bool.or_eq_false_iff, show ((byF (xoU om) gs).length == (fewF gs).length) = true from beq_iff_eq.2 (by omega), Bool.true_and] at hb
 have hb2 := of_decide_eq_false hb.2
 cases ha : xkX om (fewF gs) with
 | false => rfl
 | true =>
  exfalso
  have hlt := xuw hl ha
  rcases xwo (x := fewF gs) (y := byF (xoU om) gs) (by omega) (by rw [hfm]; exact xwu m gs) (xwu _ gs) with h | h | h
  ·apply hno
   rw [← xvn] at h hlt ⊢
   exact xn8 hl (by omega) hlt h
  ·apply hno
   rw [← h]; exact hlt
  ·exact hb2 h
end Go.Proofs.YtikhnofbbcmpeaaGreat
set_option linter.unusedVariables false
set_option maxRecDepth 100000
namespace Go.Proofs.YtikhnofbbcmpeaaGreat
open Go Go.Sy
theorem xtC (s : Int) : ∀ ships : List (List Int), xkg s ships = (xdQ s (xaA ships)).getD (0, [])
 | [] => rfl
 | x :: r => by
  have ih := xtC s r
  unfold xkg xdQ xaA at ih ⊢
  rw [List.map_cons, List.find?_cons, List.find?_cons]
  have : (x.getD 0 0 == s) = ((xh7 x).1 == s) := rfl
  rw [this]
  cases (xh7 x).1 == s with
  | true => rfl
  | false => exact ih
theorem xw0 {s : Int} {ships : List (List Int)} (hd : xqQ ships) : (xkg s ships).2.length ≤ 9223372036854775807 := by
 unfold xkg
 split
 ·rename_i x hx
  exact hd x (List.mem_of_find?_eq_some hx)
 ·exact Nat.zero_le _
theorem xtl (t dl : Int) (chances : List (List Int)) : ∀ logs : List ALog, (xqX t dl chances logs).length ≤ logs.length * chances.length
 | [] => Nat.zero_le _
 | x :: r => by
  have h1 := xtl t dl chances r
  have h2 := xtj t dl chances x
  unfold xqX at h1 ⊢
  rw [List.flatMap_cons, List.length_append, List.length_cons, Nat.add_mul]
  omega
theorem xAN (b : Bool) : (bif b then (1 : Int) else 0) = b2 b := by cases b <;> rfl
theorem xDl {ow t dl : Int} {office ships chances : List (List Int)} (ho : office.length ≤ 9223372036854775807) (hs : ships.length ≤ 1000) (hc : chances.length ≤ 1000) (hd : xqQ ships) :
  xeV ow t dl office ships chances ∧ xfl ow t dl office ships chances = (xqX t dl chances (xaA ships)).map fun g => mkR office t dl chances (xaA ships) (kOf g) := by
 obtain ⟨g1, g2⟩ := xzH (t := t) (dl := dl) hs hc hd
 have hlen : (xqX t dl chances (xaA ships)).length ≤ 1000000 := by
  have h1 := xtl t dl chances (xaA ships)
  have h2 : (xaA ships).length = ships.length := by unfold xaA; rw [List.length_map]
  rw [h2] at h1
  exact Nat.le_trans h1 (Nat.mul_le_mul hs hc)
 generalize hG : xqX t dl chances (xaA ships) = G at g2 hlen
 obtain ⟨h1, h2⟩ := xbZ (step := xc9 ow t dl office ships chances) G (fun i (s : List (List Int)) => [.i i, .r s]) (fun s g => .inl (s ++ [mkR office t dl chances (xaA ships) (kOf g)])) (fun i s => s.length ≤ i) (fun s => (1, [.i G.length, .r s])) 0
  (fun i s hi _ hI => by
   have hr := xat hi
   have hh := xAR ow 1 (col G[i] 1) 0 10000000 office ho
   have hon := xDu (so := xc6 (col G[i] 0) ships) (t := t) (dl := dl) (l := xc5 (col G[i] 0) ships) (chances := chances) (kOf G[i]) (xw0 hd) (by omega)
   have hfit : ∀ x : List Int, xbl 24 (s.length + [x].length) := fun x => by unfold xbl maxLen; simp only [List.length_cons, List.length_nil]; omega
   have hof : xc5 (col G[i] 0) ships = ((xdQ (kOf G[i]).1 (xaA ships)).getD (0, [])).2 := congrArg Prod.snd (xtC (col G[i] 0) ships)
   refine ⟨?_, fun s' hs' => ?_⟩
   ·unfold xc9 xj8 xom
    rw [g2]
    simp only [gi_z, gr_1, gr_z]
    rw [dlt hi, xaa hr, xaa hr, xaa hr, xaM hi, xaa hh.1, xaa hr, xaa hr, xaa hr, xaa (show xfv (G[i].getD 0 0) ships from (by omega : ships.length ≤ 9223372036854775807)), xaa hr, xaa hr,
     xaa (show xfu (xc6 (G[i].getD 0 0) ships) t dl (G[i].getD 0 0) (G[i].getD 1 0) (xc5 (G[i].getD 0 0) ships) chances from hon.1), xaa hr, xaa hr, xaa (hfit _), xde (by omega),
     show xeD ow 1 (G[i].getD 1 0) 0 10000000 office = _ from hh.2, show xiu (xc6 (G[i].getD 0 0) ships) t dl (G[i].getD 0 0) (G[i].getD 1 0) (xc5 (G[i].getD 0 0) ships) chances = _ from hon.2, hof, xAN, xAN]
    rfl
   ·cases hs'
    rw [List.length_append, List.length_cons, List.length_nil]; omega)
  (fun i s hi _ => by
   have : i = G.length := by omega
   subst this
   unfold xc9
   rw [g2]
   simp only [gi_z, gr_1, gr_z, dnlt]) (s := []) (Nat.zero_le _)
 refine ⟨⟨g1, h1⟩, ?_⟩
 show gr (xam (xc9 ow t dl office ships chances) [.i ((0 : Nat) : Int), .r []]).snd 1 = _
 rw [h2, List.drop_zero, xdV]
 have : ∀ (l s : List (List Int)), l.foldl (fun s g => s ++ [mkR office t dl chances (xaA ships) (kOf g)]) s = s ++ l.map fun g => mkR office t dl chances (xaA ships) (kOf g) := by
  intro l
  induction l with
  | nil => intro s; simp
  | cons x r ih => intro s; rw [List.foldl_cons, ih, List.map_cons, List.append_assoc]; rfl
 rw [this]; rfl
theorem xxO : ∀ (logs : List ALog) (b : Int), 0 ≤ b → b ≤ 8 → risF b logs = true → (logs.length : Int) ≤ 8 - b
 | [], b, _, h8, _ => by simp; omega
 | x :: r, b, hb, h8, h => by
  have hr : risF x.1 r = true := by
   unfold risF at h
   simp only [Bool.and_eq_true] at h
   exact h.2
  obtain ⟨h1, h2⟩ := xlP h x List.mem_cons_self
  obtain ⟨_, h3, h4⟩ := xxz h1
  have := xxO r x.1 (by omega) h4 hr
  rw [List.length_cons]
  omega
theorem xzl {t dl : Int} {chances : List (List Int)} (hch : chF chances = true) (h0 : 0 ≤ dl) (h1 : dl ≤ 100000) : ∀ c ∈ chances, IntKind.i64.wrap (col c 2 + dl) = col c 2 + dl := fun c hc => by
 obtain ⟨q1, q2, _⟩ := (xnb hch).2 c hc
 rw [xe3 (by omega)]
theorem xwt {ow t dl : Int} {office chances : List (List Int)} {logs : List ALog} (h : xi7 ow t dl office logs chances = true) : valF 0 office = true ∧ ow = 0 ∧ chF chances = true ∧ tmF t = true ∧ 0 ≤ dl ∧ dl ≤ 100000 ∧ risF 0 logs = true ∧ ∀ c ∈ chances, ∃ x, xdQ (col c 0) logs = some x := by
 unfold xi7 at h
 simp only [Bool.and_eq_true, decide_eq_true_eq, Bool.not_eq_true', beq_iff_eq] at h
 obtain ⟨⟨⟨⟨⟨⟨⟨a1, a2⟩, a3⟩, a4⟩, a5⟩, a6⟩, a7⟩, a8⟩ := h
 refine ⟨by rw [a2] at a1; exact a1, a2, a3, a4, a5, a6, a7, fun c hc => ?_⟩
 have := List.any_eq_false.1 a8 c hc
 unfold xmE at this
 cases hf : xdQ (col c 0) logs with
 | none => rw [hf] at this; exact absurd rfl this
 | some x => exact ⟨x, rfl⟩
theorem xAg {ow t dl : Int} {office ships chances : List (List Int)} (ho : office.length ≤ 9223372036854775807) (hd : xqQ ships) (h : xi7 ow t dl office (xaA ships) chances = true) :
  xeV ow t dl office ships chances ∧ xfl ow t dl office ships chances = xe4 office (xaA ships) t dl chances := by
 obtain ⟨a1, a2, a3, a4, a5, a6, a7, a8⟩ := xwt h
 have hsl : ships.length ≤ 1000 := by
  have := xxO (xaA ships) 0 (by omega) (by omega) a7
  unfold xaA at this
  rw [List.length_map] at this
  omega
 have hcl : chances.length ≤ 1000 := by have := (xnb a3).1; omega
 obtain ⟨h1, h2⟩ := xDl (ow := ow) (t := t) (dl := dl) ho hsl hcl hd
 refine ⟨h1, ?_⟩
 obtain ⟨r1, r2⟩ := xwS a1 a7 a3 a8 (xzl (t := t) a3 a5 a6)
 rw [h2, ← r1, xtk, List.map_map]
 rfl
theorem xyH {office : List (List Int)} {logs : List ALog} {t dl : Int} {chances : List (List Int)} (hch : chF chances = true) : (xe4 office logs t dl chances).length ≤ 200 := by
 have h1 := (xmZ (office := office) (logs := logs) (tm := t) (dl := dl) hch).2.2
 have h2 := (xnb hch).1
 omega
end Go.Proofs.YtikhnofbbcmpeaaGreat
set_option linter.unusedVariables false
set_option maxRecDepth 100000
namespace Go.Proofs.YtikhnofbbcmpeaaGreat
open Go Go.Sy
theorem xDk (o : Int) (office ships chances : List (List Int)) (hs : ships.length ≤ 9223372036854775807) : xfK o office ships chances ∧ (xeE o office ships chances = true → (chances.length ≤ 16 ∨ 200 < chances.length)) := by
 have hloop : xax (xc7 o office ships chances) (xgh o office ships chances) := by
  refine (xdC (step := xc7 o office ships chances) ships.length (fun i => decide (((decL (col (ships.getD i []) 1)).length : Int) > 40) && decide (((decL (col (ships.getD i []) 1)).length : Int) ≤ 200)) (fun i => [.b false, .i i]) (fun i => []) 0 3 [.b false, .i ships.length] (fun i hi => ?_) ?_).1
  ·have hr := xat hi
   unfold xc7
   simp only [gi_1, gi_z, gb_z]
   rw [dlt hi, xaa hr, xaa hr, xaa hr, xaa (fun _ => hr), xaa (fun _ => hr), xaa hr, xde (by omega), Int.toNat_natCast]
   show (bif decide (((decL (col (ships.getD i []) 1)).length : Int) > 40) == true then (bif decide (((decL (col (ships.getD i []) 1)).length : Int) ≤ 200) then _ else _) else _) = _
   cases decide (((decL (col (ships.getD i []) 1)).length : Int) > 40) <;> cases decide (((decL (col (ships.getD i []) 1)).length : Int) ≤ 200) <;> rfl
  ·unfold xc7
   simp only [gi_1, gi_z, gb_z, dnlt]
 refine ⟨fun _ => hloop, fun h => ?_⟩
 unfold xeE at h
 by_cases h1 : chances.length ≤ 16
 ·exact .inl h1
 ·by_cases h2 : 200 < chances.length
  ·exact .inr h2
  ·have e1 : decide ((chances.length : Int) > 16) = true := decide_eq_true (by omega)
   have e2 : decide ((chances.length : Int) ≤ 200) = true := decide_eq_true (by omega)
   rw [e1, e2] at h
   cases h
end Go.Proofs.YtikhnofbbcmpeaaGreat
set_option linter.unusedVariables false
set_option maxRecDepth 100000
namespace Go.Proofs.YtikhnofbbcmpeaaGreat
open Go Go.Sy
theorem xy5 (ow t delay : Int) (office ships chances other : List (List Int)) (h1 : office.length ≤ 9223372036854775807) (h2 : ships.length ≤ 9223372036854775807) (h3 : chances.length ≤ 9223372036854775807) (h4 : other.length ≤ 9223372036854775807) (hd : xqQ ships) :
  xcC ow t delay office ships chances other = true ∧ xbz ow t delay office ships chances other := by
 obtain ⟨f1, f2⟩ := xDk ow office ships chances h2
 unfold xcC xbz
 rw [xyA]
 cases hg : (!xeE ow office ships chances || decide ((other.length : Int) > 100)) with
 | true => exact ⟨rfl, xmX, f1, fun h => by cases h⟩
 | false =>
  have hfew : xeE ow office ships chances = true := by
   simp only [Bool.or_eq_false_iff, Bool.not_eq_false'] at hg
   exact hg.1
  obtain ⟨e1, e2, e3, e4⟩ := xrX (ow := ow) (t := t) (delay := delay) h1 h2 h3 hd ((f2 hfew).imp (fun h => by omega) id)
  rw [cond_false, e4]
  cases hc : xi7 ow t delay office (xaA ships) chances with
  | false =>
   rw [if_neg (by decide)]
   exact ⟨rfl, xmX, f1, fun _ => ⟨e1, fun h => by cases h⟩⟩
  | true =>
   rw [hc, if_pos rfl] at e2
   rw [if_pos rfl]
   obtain ⟨a1, a2⟩ := xAg h1 hd hc
   have hch := (xwt hc).2.2.1
   obtain ⟨k1, k2, k3⟩ := xmZ (office := office) (logs := xaA ships) (tm := t) (dl := delay) hch
   have hup := xBt office (xaA ships) t delay chances
   have hglen := xyH (office := office) (logs := xaA ships) (t := t) (dl := delay) hch
   rw [a2, e2]
   generalize xe4 office (xaA ships) t delay chances = gs at k1 k2 k3 hup hglen
   obtain ⟨x1, x2⟩ := xvI gs other (by omega) h4
   rw [x2]
   cases hx : expF gs other with
   | false => exact ⟨rfl, xmX, f1, fun _ => ⟨e1, fun _ => ⟨a1, x1, fun h => by cases h⟩⟩⟩
   | true =>
    obtain ⟨n1, n2⟩ := xya k1 hup hx
    rw [decide_eq_true (show ((fewF gs).length : Int) ≤ (other.length : Int) by omega)]
    by_cases hlt : ((fewF gs).length : Int) < (other.length : Int)
    ·rw [decide_eq_true hlt]
     exact ⟨rfl, xmX, f1, fun _ => ⟨e1, fun _ => ⟨a1, x1, fun _ _ h => by cases h⟩⟩⟩
    ·obtain ⟨y1, y2⟩ := xAh other (fewF gs) (by omega) h4
     rw [decide_eq_false hlt, y2, n2 (by omega)]
     exact ⟨rfl, xmX, f1, fun _ => ⟨e1, fun _ => ⟨a1, x1, fun _ _ _ => y1⟩⟩⟩
end Go.Proofs.YtikhnofbbcmpeaaGreat
