/- Several texts in one (wip/pack.py): XInqPj XInqPk XInqPl XKoen XInqPn XInqPo XInqPf2 XInqQ0 XInqQProved. -/
import Derived.Test.YtikhnofbbcmpeaaGreatQIP05
import Derived.Test.YtikhnofbbcmpeaaGreatQIP07
set_option linter.unusedVariables false
set_option maxRecDepth 100000
namespace Go.Proofs.YtikhnofbbcmpeaaGreat
open Go Go.Sy
def xij (cf : List Int → List Int → Int) : List (List Int) → Bool
 | x :: y :: r => decide (cf x y < 0) && xij cf (y :: r)
 | _ => true
theorem xjh (cf : List Int → List Int → Int) : ∀ l : List (List Int), xij cf l = true ↔ ∀ i (h : i + 1 < l.length), cf l[i] l[i + 1] < 0
 | [] => ⟨fun _ i h => by simp at h, fun _ => rfl⟩
 | [x] => ⟨fun _ i h => by simp at h, fun _ => rfl⟩
 | x :: y :: r => by
  show (decide (cf x y < 0) && xij cf (y :: r)) = true ↔ _
  rw [Bool.and_eq_true, decide_eq_true_eq, xjh cf (y :: r)]
  constructor
  ·rintro ⟨h1, h2⟩ i hi
   cases i with
   | zero => exact h1
   | succ i => exact h2 i (by simpa using hi)
  ·intro h
   exact ⟨h 0 (by simp), fun i hi => h (i + 1) (by simpa using hi)⟩
theorem xrU {step : List U → Option (Nat × List U)} {l : List (List Int)} {cf : List Int → List Int → Int} (m : Nat) (hs : ∀ i (hi : i + 1 < l.length), step [.b false, .i ((i + 1 : Nat) : Int)] = bif decide (cf l[i] l[i + 1] ≥ 0) then some (1, []) else some (0, [.b false, .i ((i + 1 + 1 : Nat) : Int)]))
  (he : ∀ n : Nat, ¬ ((n : Int) < (l.length : Int)) → step [.b false, .i n] = some (m + 2, [.b false, .i n])) {init : List U} (hi : init = [.b false, .i ((0 + 1 : Nat) : Int)]) :
  xaH step init ∧ (bif (xaw step init).fst.beq 1 then false else true) = xij cf l := by
 subst hi
 obtain ⟨h1, h2⟩ := xfG (step := step) (l.length - 1) (fun i => decide (cf (l.getD i []) (l.getD (i + 1) []) ≥ 0)) (fun i => [.b false, .i ((i + 1 : Nat) : Int)]) (fun i => []) 0 (m + 1) [.b false, .i ((l.length - 1 + 1 : Nat) : Int)]
  (fun i hi => by rw [hs i (by omega), xbO (by omega), xbO (by omega)]) (he _ (by omega))
 refine ⟨h1, ?_⟩
 rcases h2 with ⟨i, hi, hp, _, hg⟩ | ⟨hn, hg⟩
 ·rw [hg]
  rw [xbO (by omega), xbO (by omega)] at hp
  have : xij cf l = false := by
   cases hr : xij cf l with
   | false => rfl
   | true =>
    have := (xjh cf l).1 hr i (by omega)
    have := of_decide_eq_true hp
    omega
  rw [this]; rfl
 ·rw [hg]
  have : xij cf l = true := (xjh cf l).2 fun i hi => by
   have := hn i (by omega)
   rw [xbO (by omega), xbO hi] at this
   have := of_decide_eq_false this
   omega
  rw [this]; rfl
def canF (g o : List Int) : Bool :=
 bif col o 0 == 1 && (col o 1 == 0 && (col o 2 == col g 1 && true)) then col g 2 != 0 else bif col o 0 == 2 && (col o 1 == col g 0 && (col o 2 == 0 && true)) then col g 3 != 0 else col o 0 == 3 && (col o 1 == col g 0 && (col o 2 == col g 1 && true))
def keyB (g p : List Int) : Bool := col g 0 == col p 0 && (col g 1 == col p 1 && true)
def verL (om pr : List (List Int)) : List (List Int) → List (List Int) → Option (List (List Int))
 | named, [] => some named
 | named, g :: r => if (om.any (canF g)) = true then (if pr.any (keyB g) = true then (if named.any (fun h => !apF g h) = true then none else verL om pr (named ++ [g]) r) else verL om pr named r) else none
noncomputable def verF (gs om pr : List (List Int)) : Bool := om.length == pr.length && xij cfO om && xij cfG pr && (match verL om pr [] gs with | some named => named.length == pr.length | none => false)
section
variable {ow t delay : Int} {office ships list om pr : List (List Int)}
theorem xxt : xd0 ow t delay office ships list om pr = xbb ow t delay office ships list ∧ xd1 ow t delay office ships list om pr = xb5 ow t delay office ships list ∧ xan ow t delay office ships list om pr = xao ow t delay office ships list ∧
  xdY ow t delay office ships list om pr = xba ow t delay office ships list ∧ xdZ ow t delay office ships list om pr = xcN ow t delay office ships list ∧ xcm ow t delay office ships list om pr = xbD ow t delay office ships list := ⟨rfl, rfl, rfl, rfl, rfl, rfl⟩
theorem xyN (hom : om.length ≤ 9223372036854775807) : xaH (xcj ow t delay office ships list om pr) (xdX ow t delay office ships list om pr) ∧ (bif (xdq ow t delay office ships list om pr).fst.beq 1 then false else true) = xij cfO om :=
 xrU (cf := cfO) 1 (fun i hi => by
   unfold xcj xh3
   have hw : IntKind.i64.wrap (((i + 1 : Nat) : Int) - 1) = ((i : Nat) : Int) := by rw [xgl (by omega)]; omega
   simp only [gi_1, gi_z, gb_z, hw]
   rw [decide_eq_true (by omega), cond_true, xaa (xa0 (by omega)), xaa (xa0 (by omega)), xaa (xa0 hi), xaa (xa0 hi), xaa (xgv _ _ _ _ _ _).1, xbl hi, xbl (show i < om.length by omega), xeo (by omega)]
   rfl)
  (fun n hn => by
   unfold xcj
   simp only [gi_1, gi_z, gb_z]
   rw [decide_eq_false hn]; rfl) rfl
theorem xyM (hpr : pr.length ≤ 9223372036854775807) : xaH (xci ow t delay office ships list om pr) (xdW ow t delay office ships list om pr) ∧ (bif (xev ow t delay office ships list om pr).fst.beq 1 then false else true) = xij cfG pr :=
 xrU (cf := cfG) 1 (fun i hi => by
   unfold xci xh2
   have hw : IntKind.i64.wrap (((i + 1 : Nat) : Int) - 1) = ((i : Nat) : Int) := by rw [xgl (by omega)]; omega
   simp only [gi_1, gi_z, gb_z, hw]
   rw [decide_eq_true (by omega), cond_true, xaa (xa0 (by omega)), xaa (xa0 (by omega)), xaa (xa0 hi), xaa (xa0 hi), xaa (xn3 _ _ _ _).1, xbl hi, xbl (show i < pr.length by omega), xeo (by omega)]
   rfl)
  (fun n hn => by
   unfold xci
   simp only [gi_1, gi_z, gb_z]
   rw [decide_eq_false hn]; rfl) rfl
theorem xyL {gs : List (List Int)} (hg : xal ow t delay office (gr (xan ow t delay office ships list om pr).snd 3) list = gs) (hok : xs3 gs) (hgs : gs.length ≤ 1000000) (hom : om.length ≤ 9223372036854775807) (hpr : pr.length ≤ 9223372036854775807) :
  xaH (xbe ow t delay office ships list om pr) (xdV ow t delay office ships list om pr) ∧
  (bif (xa4 ow t delay office ships list om pr).fst.beq 1 then false else bif (xa4 ow t delay office ships list om pr).fst.beq 2 then false else (↑(gr (xa4 ow t delay office ships list om pr).snd 3).length : Int) == (↑pr.length : Int)) = (match verL om pr [] gs with | some named => named.length == pr.length | none => false) := by
 have inner : ∀ (i : Nat) (hi : i < gs.length) (named : List (List Int)), named.length ≤ 9223372036854775807 →
   (xaH (xch ow t delay office ships list om pr [.b false, .i 0, .i i, .r named]) (xdU ow t delay office ships list om pr [.b false, .i 0, .i i, .r named]) ∧ decide ((bif (xeu ow t delay office ships list om pr [.b false, .i 0, .i i, .r named]).fst.beq 1 then gi (xeu ow t delay office ships list om pr [.b false, .i 0, .i i, .r named]).snd 0 else (-1 : Int)) ≥ 0) = om.any (canF gs[i])) ∧
   (xaH (xcg ow t delay office ships list om pr [.b false, .i 0, .i i, .r named]) (xdT ow t delay office ships list om pr [.b false, .i 0, .i i, .r named]) ∧ decide ((bif (xet ow t delay office ships list om pr [.b false, .i 0, .i i, .r named]).fst.beq 1 then gi (xet ow t delay office ships list om pr [.b false, .i 0, .i i, .r named]).snd 0 else (-1 : Int)) ≥ 0) = pr.any (keyB gs[i])) ∧
   (xaH (xcf ow t delay office ships list om pr [.b false, .i 0, .i i, .r named]) (xdS ow t delay office ships list om pr [.b false, .i 0, .i i, .r named]) ∧ decide ((bif (xes ow t delay office ships list om pr [.b false, .i 0, .i i, .r named]).fst.beq 1 then gi (xes ow t delay office ships list om pr [.b false, .i 0, .i i, .r named]).snd 0 else (-1 : Int)) ≥ 0) = named.any fun h => !apF gs[i] h) := by
  intro i hi named hnm
  refine ⟨xir (l := om) (p := canF gs[i]) 1 (fun j hj => ?_) ?_ rfl, xir (l := pr) (p := keyB gs[i]) 1 (fun j hj => ?_) ?_ rfl, xir (l := named) (p := fun h => !apF gs[i] h) 1 (fun j hj => ?_) ?_ rfl⟩
  ·unfold xch
   simp only [gi_2, gi_1, gi_z]
   rw [hg, dlt hj, xaa (xa0 hj), xaa (xa0 hj), xbl hj, xbl hi, xeo (by omega)]
   rfl
  ·unfold xch
   simp only [gi_1, gi_z, dnlt]
  ·unfold xcg
   simp only [gi_2, gi_1, gi_z]
   rw [hg, dlt hj, xaa (xa0 hj), xaa (xa0 hj), xbl hj, xbl hi, xeo (by omega)]
   rfl
  ·unfold xcg
   simp only [gi_1, gi_z, dnlt]
  ·unfold xcf
   simp only [gi_2, gi_1, gi_z, gr_3, gr_z]
   rw [hg, dlt hj, xaa (xa0 hj), xaa (xa0 hj), xbl hj, xbl hi, xeo (by omega)]
   rfl
  ·unfold xcf
   simp only [gi_1, gi_z, gr_3, gr_z, dnlt]
 let f : List (List Int) → List Int → List (List Int) ⊕ (Nat × List U) := fun named g => if (om.any (canF g)) = true then (if pr.any (keyB g) = true then (if named.any (fun h => !apF g h) = true then .inr (1, []) else .inl (named ++ [g])) else .inl named) else .inr (0, [])
 obtain ⟨h1, h2⟩ := xdE (step := xbe ow t delay office ships list om pr) gs (fun i (s : List (List Int)) => [.b false, .i 0, .i i, .r s]) f (fun i s => s.length ≤ i) (fun s => (4, [.b false, .i 0, .i gs.length, .r s])) 0
  (fun i s hi _ hI => by
   obtain ⟨⟨a1, a2⟩, ⟨b1, b2⟩, ⟨c1, c2⟩⟩ := inner i hi s (by omega)
   refine ⟨?_, fun s' hs' => ?_⟩
   ·have hn : [gs[i].getD 0 0, gs[i].getD 1 0, bif gs[i].getD 2 0 != 0 then 1 else 0, bif gs[i].getD 3 0 != 0 then 1 else 0] = gs[i] := hok _ (List.getElem_mem hi)
    have hn4 : xer ow t delay office ships list om pr [.b false, .i 0, .i i, .r s] = gs[i] := by
     unfold xer xh1
     simp only [gi_2, gi_1, gi_z]
     rw [hg, xbl hi]
     exact hn
    unfold xbe
    simp only [gi_2, gi_1, gi_z, gb_z, gr_3, gr_z]
    rw [a2, b2, c2, hn4, hg, dlt hi, xaa (xa0 hi), xaa (xa0 hi), xaa a1, xaa b1, xaa c1, xeo (by omega), xaa (by unfold xbJ maxLen; simp only [List.length_cons, List.length_nil]; omega)]
    show _ = goOn _ (if (om.any (canF gs[i])) = true then (if pr.any (keyB gs[i]) = true then (if s.any (fun h => !apF gs[i] h) = true then .inr (1, []) else .inl (s ++ [gs[i]])) else .inl s) else .inr (0, []))
    cases om.any (canF gs[i])
    ·rw [if_neg (by decide)]; rfl
    ·rw [if_pos rfl]
     cases pr.any (keyB gs[i])
     ·rw [if_neg (by decide)]; rfl
     ·rw [if_pos rfl]
      cases s.any fun h => !apF gs[i] h
      ·rw [if_neg (by decide)]; rfl
      ·rw [if_pos rfl]; rfl
   ·have hs' : (if (om.any (canF gs[i])) = true then (if pr.any (keyB gs[i]) = true then (if s.any (fun h => !apF gs[i] h) = true then .inr (1, []) else .inl (s ++ [gs[i]])) else .inl s) else .inr (0, []) : List (List Int) ⊕ (Nat × List U)) = .inl s' := hs'
    split at hs'
    ·split at hs'
     ·split at hs'
      ·cases hs'
      ·cases hs'; simp; omega
     ·cases hs'; omega
    ·cases hs')
  (fun i s hi _ => by
   have : i = gs.length := by omega
   subst this
   unfold xbe
   simp only [gi_2, gi_1, gi_z, gb_z, gr_3, gr_z]
   rw [hg, dnlt]) (s := []) (Nat.zero_le _)
 refine ⟨h1, ?_⟩
 have el : xa4 ow t delay office ships list om pr = xaw (xbe ow t delay office ships list om pr) [.b false, .i 0, .i ((0 : Nat) : Int), .r []] := rfl
 rw [el, h2, List.drop_zero]
 have run : ∀ (r : List (List Int)) (named : List (List Int)), (bif (endL (fun s : List (List Int) => (4, [.b false, .i 0, .i gs.length, .r s])) (runL f named r)).1.beq 1 then false else bif (endL (fun s : List (List Int) => (4, [.b false, .i 0, .i gs.length, .r s])) (runL f named r)).1.beq 2 then false else (↑(gr (endL (fun s : List (List Int) => (4, [.b false, .i 0, .i gs.length, .r s])) (runL f named r)).2 3).length : Int) == (↑pr.length : Int)) = (match verL om pr named r with | some named => named.length == pr.length | none => false) := by
  intro r
  induction r with
  | nil =>
   intro named
   show ((↑(gr [.b false, .i 0, .i gs.length, .r named] 3).length : Int) == (↑pr.length : Int)) = (named.length == pr.length)
   rw [gr_3, gr_z]
   by_cases h : named.length = pr.length
   ·rw [h]; simp
   ·have h1 : ¬ (named.length : Int) = (pr.length : Int) := by omega
    rw [bne h1]
    simpa using h
  | cons g r ih =>
   intro named
   have ef : f named g = if (om.any (canF g)) = true then (if pr.any (keyB g) = true then (if named.any (fun h => !apF g h) = true then .inr (1, []) else .inl (named ++ [g])) else .inl named) else .inr (0, []) := rfl
   unfold runL verL
   by_cases h1 : om.any (canF g) = true
   ·rw [if_pos h1] at ef
    rw [if_pos h1]
    by_cases h2 : pr.any (keyB g) = true
    ·rw [if_pos h2] at ef
     rw [if_pos h2]
     by_cases h3 : named.any (fun h => !apF g h) = true
     ·rw [if_pos h3] at ef
      rw [if_pos h3, ef]; rfl
     ·rw [if_neg h3] at ef
      rw [if_neg h3, ef]
      exact ih _
    ·rw [if_neg h2] at ef
     rw [if_neg h2, ef]
     exact ih _
   ·rw [if_neg h1] at ef
    rw [if_neg h1, ef]; rfl
 exact run gs []
theorem xpz (ho : office.length ≤ 9223372036854775807) (hs : ships.length ≤ 9223372036854775807) (hl : list.length ≤ 9223372036854775807) (hd : xt5 ships) (hom : om.length ≤ 9223372036854775807) (hpr : pr.length ≤ 9223372036854775807) :
  xbj ow t delay office ships list om pr ∧ xbI ow t delay office ships list om pr = (xja ow t delay office (xaF ships) list && verF (xd2 office (xaF ships) t delay list) om pr) ∧ xb8 ow t delay office ships list om pr = if xja ow t delay office (xaF ships) list = true then 0 else 1 := by
 have hv := xe0 ow office ho
 have hc := xif list hl
 obtain ⟨o1, o2, o3⟩ := xum (ow := ow) (t := t) (delay := delay) (office := office) (list := list) hs hd
 obtain ⟨es0, ei0, el0, es1, ei1, el1⟩ := xxt (ow := ow) (t := t) (delay := delay) (office := office) (ships := ships) (list := list) (om := om) (pr := pr)
 obtain ⟨r1, r2⟩ := xyN (ow := ow) (t := t) (delay := delay) (office := office) (ships := ships) (list := list) (pr := pr) hom
 obtain ⟨s1, s2⟩ := xyM (ow := ow) (t := t) (delay := delay) (office := office) (ships := ships) (list := list) (om := om) hpr
 have elen : ((om.length : Int) != (pr.length : Int)) = !(om.length == pr.length) := by
  by_cases h : om.length = pr.length
  ·rw [h]; simp
  ·have h1 : ¬ (om.length : Int) = (pr.length : Int) := by omega
   show (!((om.length : Int) == (pr.length : Int))) = _
   rw [bne h1]
   simpa using h
 unfold xbj xbI xb8 xhY xhZ xh0
 rw [r2, s2, elen]
 rw [es0, ei0, el0, es1, ei1, el1, xrC ho hl, xtP]
 cases h1 : xgU ow t delay office list with
 | false => exact ⟨⟨hv.1, fun _ => hc.1, fun h => by cases h⟩, rfl, rfl⟩
 | true =>
  cases h2 : risF 0 (xaF ships) with
  | false =>
   have e := o3 h2
   rw [e]
   exact ⟨⟨hv.1, fun _ => hc.1, fun _ => ⟨o1, fun h => by cases h⟩⟩, rfl, rfl⟩
  | true =>
   obtain ⟨e, er⟩ := o2 h2
   obtain ⟨p1, p2⟩ := xwg (ow := ow) (t := t) (delay := delay) (office := office) hl hs hd h2
   obtain ⟨g1, g2⟩ := xtE (t := t) ho h1 h2
   rw [e, xhk, p2]
   have er' : gr (xao ow t delay office ships list).snd 3 = ships.map rowO := er
   cases h3 : list.any (xne (xaF ships)) with
   | true => exact ⟨⟨hv.1, fun _ => hc.1, fun _ => ⟨o1, fun _ => ⟨p1, fun h => by cases h⟩⟩⟩, rfl, rfl⟩
   | false =>
    have hch : chF list = true := by
     unfold xgU at h1
     simp only [Bool.and_eq_true] at h1
     exact h1.1.1.1.2
    obtain ⟨k1, k2, k3⟩ := xlQ (office := office) (logs := xaF ships) (tm := t) (dl := delay) hch
    have hl200 := (xqw hch).1
    obtain ⟨v1, v2⟩ := xyL (ow := ow) (t := t) (delay := delay) (office := office) (ships := ships) (list := list) (om := om) (pr := pr) (gs := xd2 office (xaF ships) t delay list) (by rw [el0, er', g2]) k2 (by omega) hom hpr
    rw [er']
    refine ⟨⟨hv.1, fun _ => hc.1, fun _ => ⟨o1, fun _ => ⟨p1, fun _ => ⟨fun _ => r1, fun _ => s1, fun _ => ⟨g1, v1⟩⟩⟩⟩⟩, ?_, ?_⟩
    ·unfold verF
     rw [← v2]
     cases (om.length == pr.length) <;> cases xij cfO om <;> cases xij cfG pr <;> rfl
    ·cases (om.length == pr.length) <;> cases xij cfO om <;> cases xij cfG pr <;> cases (xa4 ow t delay office ships list om pr).fst.beq 1 <;> cases (xa4 ow t delay office ships list om pr).fst.beq 2 <;> rfl
end
end Go.Proofs.YtikhnofbbcmpeaaGreat
set_option linter.unusedVariables false
set_option maxRecDepth 100000
namespace Go.Proofs.YtikhnofbbcmpeaaGreat
open Go Go.Sy
def xkh (eq : List Int → List Int → Bool) : List (List Int) → List (List Int) → Bool
 | [], [] => true
 | x :: r, y :: r' => eq x y && xkh eq r r'
 | _, _ => false
theorem xlk {eq : List Int → List Int → Bool} : ∀ {a b : List (List Int)}, a.length ≠ b.length → xkh eq a b = false
 | [], [], h => absurd rfl h
 | [], _ :: _, _ => rfl
 | _ :: _, [], _ => rfl
 | x :: r, y :: r', h => by
  unfold xkh
  rw [xlk (by simpa using h), Bool.and_false]
theorem xou {eq : List Int → List Int → Bool} : ∀ {a b : List (List Int)}, a.length = b.length → (xkh eq a b = true ↔ ∀ i (h : i < a.length) (h' : i < b.length), eq a[i] b[i] = true)
 | [], [], _ => ⟨(fun _ i h => by cases h), fun _ => rfl⟩
 | x :: r, y :: r', h => by
  show (eq x y && xkh eq r r') = true ↔ _
  rw [Bool.and_eq_true, xou (by simpa using h)]
  constructor
  ·rintro ⟨h1, h2⟩ i hi hi'
   cases i with
   | zero => exact h1
   | succ i => exact h2 i (by simpa using hi) (by simpa using hi')
  ·intro h
   exact ⟨h 0 (by simp) (by simp), fun i hi hi' => h (i + 1) (by simpa using hi) (by simpa using hi')⟩
theorem xot {step : List U → Option (Nat × List U)} {a b : List (List Int)} {eq : List Int → List Int → Bool} (m : Nat) (hlen : a.length = b.length)
  (hs : ∀ i (h : i < a.length) (h' : i < b.length), step [.b false, .i i] = bif eq a[i] b[i] then some (0, [.b false, .i ((i + 1 : Nat) : Int)]) else some (1, []))
  (he : step [.b false, .i a.length] = some (m + 2, [.b false, .i a.length])) {init : List U} (hi : init = [.b false, .i ((0 : Nat) : Int)]) :
  xaH step init ∧ (bif (xaw step init).fst.beq 1 then false else true) = xkh eq a b := by
 subst hi
 obtain ⟨h1, h2⟩ := xfG (step := step) a.length (fun i => !eq (a.getD i []) (b.getD i [])) (fun i => [.b false, .i i]) (fun i => []) 0 (m + 1) [.b false, .i a.length]
  (fun i hi => by
   rw [hs i hi (by omega), xbO hi, xbO (by omega)]
   cases eq a[i] b[i] <;> rfl) he
 refine ⟨h1, ?_⟩
 rcases h2 with ⟨i, hi, hp, _, hg⟩ | ⟨hn, hg⟩
 ·rw [hg]
  have : xkh eq a b = false := by
   cases hr : xkh eq a b with
   | false => rfl
   | true =>
    have h := (xou hlen).1 hr i hi (by omega)
    rw [xbO hi, xbO (by omega), h] at hp
    cases hp
  rw [this]; rfl
 ·rw [hg]
  have : xkh eq a b = true := (xou hlen).2 fun i h h' => by
   have := hn i h
   rw [xbO h, xbO h'] at this
   simpa using this
  rw [this]; rfl
theorem lenI {a b : List (List Int)} : ((a.length : Int) != (b.length : Int)) = !decide (a.length = b.length) := by
 by_cases h : a.length = b.length
 ·rw [h]; simp
 ·have h1 : ¬ (a.length : Int) = (b.length : Int) := by omega
  show (!((a.length : Int) == (b.length : Int))) = _
  rw [bne h1, decide_eq_false h]
def eq1 (x y : List Int) : Bool := col x 0 == col y 0
def eq2 (x y : List Int) : Bool := col x 0 == col y 0 && (col x 1 == col y 1 && true)
def eq3 (x y : List Int) : Bool := col x 0 == col y 0 && (col x 1 == col y 1 && (col x 2 == col y 2 && true))
theorem xt6 (a b : List (List Int)) (ha : a.length ≤ 9223372036854775807) : xdc a b ∧ xdu a b = xkh eq1 a b := by
 unfold xdc xdu
 rw [lenI]
 by_cases hlen : a.length = b.length
 ·obtain ⟨h1, h2⟩ := xot (step := xc5 a b) (a := a) (b := b) (eq := eq1) 1 hlen (fun i h h' => by
    unfold xc5
    simp only [gi_1, gi_z, gb_z]
    rw [dlt h, xaa (xa0 h), xaa (xa0 h), xaa (xa0 h'), xaa (xa0 h'), xbl h, xbl h', xeo (by omega)]
    show (bif !(eq1 a[i] b[i]) then _ else _) = _
    cases eq1 a[i] b[i] <;> rfl)
   (by
    unfold xc5
    simp only [gi_1, gi_z, gb_z, dnlt]) (init := xe4 a b) rfl
  rw [decide_eq_true hlen]
  exact ⟨fun _ => h1, h2⟩
 ·rw [decide_eq_false hlen, xlk hlen]
  exact ⟨(fun h => by cases h), rfl⟩
theorem xiN (a b : List (List Int)) (ha : a.length ≤ 9223372036854775807) : xbU a b ∧ xbF a b = xkh eq2 a b := by
 unfold xbU xbF
 rw [lenI]
 by_cases hlen : a.length = b.length
 ·obtain ⟨h1, h2⟩ := xot (step := xcc a b) (a := a) (b := b) (eq := eq2) 1 hlen (fun i h h' => by
    unfold xcc
    simp only [gi_1, gi_z, gb_z]
    rw [dlt h, xaa (xa0 h), xaa (xa0 h), xaa (xa0 h'), xaa (xa0 h'), xbl h, xbl h', xeo (by omega)]
    show (bif !(eq2 a[i] b[i]) then _ else _) = _
    cases eq2 a[i] b[i] <;> rfl)
   (by
    unfold xcc
    simp only [gi_1, gi_z, gb_z, dnlt]) (init := xdO a b) rfl
  rw [decide_eq_true hlen]
  exact ⟨fun _ => h1, h2⟩
 ·rw [decide_eq_false hlen, xlk hlen]
  exact ⟨(fun h => by cases h), rfl⟩
theorem xs2 (a b : List (List Int)) (ha : a.length ≤ 9223372036854775807) : xbt a b ∧ xbL a b = xkh eq3 a b := by
 unfold xbt xbL
 rw [lenI]
 by_cases hlen : a.length = b.length
 ·obtain ⟨h1, h2⟩ := xot (step := xbp a b) (a := a) (b := b) (eq := eq3) 1 hlen (fun i h h' => by
    unfold xbp
    simp only [gi_1, gi_z, gb_z]
    rw [dlt h, xaa (xa0 h), xaa (xa0 h), xaa (xa0 h'), xaa (xa0 h'), xbl h, xbl h', xeo (by omega)]
    show (bif !(eq3 a[i] b[i]) then _ else _) = _
    cases eq3 a[i] b[i] <;> rfl)
   (by
    unfold xbp
    simp only [gi_1, gi_z, gb_z, dnlt]) (init := xcY a b) rfl
  rw [decide_eq_true hlen]
  exact ⟨fun _ => h1, h2⟩
 ·rw [decide_eq_false hlen, xlk hlen]
  exact ⟨(fun h => by cases h), rfl⟩
def addE (o t k n : Int) (l : List (List Int)) : Int :=
 if (valF o l && lnF t k n) = false then 1 else if ownF o k = false then 12 else if 200 ≤ l.length then 2 else if t < xtu 0 (-1) l then 13 else if (k == 4 && !onF 10000000 true l) = true then 6 else if (k == 5 && onF 10000000 true l) = true then 6 else 0
def addL (o t k n : Int) (l : List (List Int)) : List (List Int) := if addE o t k n l = 0 then l ++ [[t, k, n, sumF o (xtu 3 0 l) t k n]] else []
theorem xAQ (o t k n : Int) (l : List (List Int)) (hl : l.length ≤ 9223372036854775807) : xek o t k n l ∧ xfj o t k n l = addL o t k n l ∧ xfi o t k n l = (if addE o t k n l = 0 then o else 0) ∧ xfh o t k n l = addE o t k n l := by
 obtain ⟨v1, v2⟩ := xe0 o l hl
 obtain ⟨o1, o2⟩ := xwi o 10000000 l hl
 obtain ⟨l1, l2, l3⟩ := xtt o l hl
 have hQ : decide ((l.length : Int) ≥ (200 : Int)) = false → (xbC o (xaV o l) t k n (0 : Int)) ∧ ((((l = []) → ((True) ∧ (([] ++ l = []) ∧ (True)))) ∧ (xbJ 32 (0 + l.length))) ∧ (xbJ 32 (([] ++ l).length + [[t, k, n, xbW o (xaV o l) t k n (0 : Int)]].length))) := fun h => by
  have := of_decide_eq_false h
  refine ⟨(xt9 _ _ _ _ _ _).1, ⟨fun h => ⟨trivial, by rw [h]; rfl, trivial⟩, by unfold xbJ maxLen; omega⟩, ?_⟩
  unfold xbJ maxLen
  simp only [List.nil_append, List.length_cons, List.length_nil]
  omega
 refine ⟨⟨l1, o1, v1, fun h1 h2 => ?_, fun _ _ _ h4 _ => ⟨fun a b => ?_, fun _ _ => hQ h4⟩⟩, ?_⟩
 ·rw [h1] at h2; cases h2
 ·rw [a] at b; cases b
 ·unfold xfj xhq xkx xky xfi xkv xkw xhp xfh xkt xku xho addL addE
  rw [v2, o2, l2, l3, xwy, xyh, (xt9 _ _ _ _ _ _).2]
  have e200 : decide ((l.length : Int) ≥ (200 : Int)) = decide (200 ≤ l.length) := decide_eq_decide.2 (by omega)
  rw [e200]
  cases hv : valF o l
  ·simp
  ·cases hln : lnF t k n
   ·simp
   ·cases hown : ownF o k
    ·simp
    ·by_cases h2 : 200 ≤ l.length
     ·simp [h2]
     ·by_cases h3 : t < xtu 0 (-1) l
      ·simp [h2, h3]
      ·cases h4 : (k == 4 && !onF 10000000 true l)
       ·cases h5 : (k == 5 && onF 10000000 true l)
        ·simp [h2, h3]
        ·simp [h2, h3]
       ·simp [h2, h3]
theorem xx1 (o t k n : Int) (l : List (List Int)) : (addL o t k n l).length ≤ l.length + 1 := by
 unfold addL
 by_cases h : addE o t k n l = 0
 ·rw [if_pos h]; simp
 ·rw [if_neg h]; simp
def logF : Int × List (List Int) → List (List Int) → Int × List (List Int)
 | s, [] => s
 | s, x :: r => if addE s.1 (col x 0) (col x 1) (col x 2) s.2 = 0 then logF (s.1, addL s.1 (col x 0) (col x 1) (col x 2) s.2) r else (0, [])
theorem xuu (o : Int) (lines : List (List Int)) (hl : lines.length ≤ 1000000) : xbG o lines ∧ (xab o lines, xac o lines) = logF (o, []) lines := by
 let f : Int × List (List Int) → List Int → (Int × List (List Int)) ⊕ (Nat × List U) := fun s x => if addE s.1 (col x 0) (col x 1) (col x 2) s.2 = 0 then .inl (s.1, addL s.1 (col x 0) (col x 1) (col x 2) s.2) else .inr (0, [.i s.1, .r s.2])
 obtain ⟨h1, h2⟩ := xdE (step := xcV o lines) lines (fun i (s : Int × List (List Int)) => [.i i, .i s.1, .r s.2]) f (fun i s => s.2.length ≤ i) (fun s => (2, [.i lines.length, .i s.1, .r s.2])) 0
  (fun i s hi _ hI => by
   obtain ⟨a1, a2, a3, a4⟩ := xAQ s.1 (col lines[i] 0) (col lines[i] 1) (col lines[i] 2) s.2 (by omega)
   refine ⟨?_, fun s' hs' => ?_⟩
   ·unfold xcV xnm xnl xnk
    simp only [gi_z, gi_1, gr_2, gr_1, gr_z, dlt hi, xaa (xa0 hi), xbl hi, xeo (show i < 9223372036854775807 by omega)]
    rw [xaa a1, a2, a3, a4]
    show _ = goOn _ (if addE s.1 (col lines[i] 0) (col lines[i] 1) (col lines[i] 2) s.2 = 0 then .inl (s.1, addL s.1 (col lines[i] 0) (col lines[i] 1) (col lines[i] 2) s.2) else .inr (0, [.i s.1, .r s.2]))
    by_cases h : addE s.1 (col lines[i] 0) (col lines[i] 1) (col lines[i] 2) s.2 = 0
    ·rw [if_pos h, if_pos h, h]; rfl
    ·rw [if_neg h, if_neg h]
     have : (addE s.1 (col lines[i] 0) (col lines[i] 1) (col lines[i] 2) s.2 != 0) = true := by simpa using h
     rw [this]; rfl
   ·have hs' : (if addE s.1 (col lines[i] 0) (col lines[i] 1) (col lines[i] 2) s.2 = 0 then .inl (s.1, addL s.1 (col lines[i] 0) (col lines[i] 1) (col lines[i] 2) s.2) else .inr (0, [.i s.1, .r s.2]) : (Int × List (List Int)) ⊕ (Nat × List U)) = .inl s' := hs'
    split at hs'
    ·cases hs'
     exact Nat.le_trans (xx1 _ _ _ _ _) (by omega)
    ·cases hs')
  (fun i s hi _ => by
   have : i = lines.length := by omega
   subst this
   unfold xcV
   simp only [gi_z, gi_1, gr_2, gr_1, gr_z, dnlt]) (s := (o, [])) (Nat.zero_le _)
 refine ⟨h1, ?_⟩
 have el : xfZ o lines = xaw (xcV o lines) [.i ((0 : Nat) : Int), .i o, .r []] := rfl
 unfold xab xac
 rw [el, h2, List.drop_zero]
 have run : ∀ (r : List (List Int)) (s : Int × List (List Int)), ((bif (endL (fun s : Int × List (List Int) => (2, [.i lines.length, .i s.1, .r s.2])) (runL f s r)).1.beq 1 then (0 : Int) else gi (endL (fun s : Int × List (List Int) => (2, [.i lines.length, .i s.1, .r s.2])) (runL f s r)).2 1), (bif (endL (fun s : Int × List (List Int) => (2, [.i lines.length, .i s.1, .r s.2])) (runL f s r)).1.beq 1 then [] else gr (endL (fun s : Int × List (List Int) => (2, [.i lines.length, .i s.1, .r s.2])) (runL f s r)).2 2)) = logF s r := by
  intro r
  induction r with
  | nil => intro s; rfl
  | cons x r ih =>
   intro s
   have ef : f s x = if addE s.1 (col x 0) (col x 1) (col x 2) s.2 = 0 then .inl (s.1, addL s.1 (col x 0) (col x 1) (col x 2) s.2) else .inr (0, [.i s.1, .r s.2]) := rfl
   unfold runL logF
   by_cases h : addE s.1 (col x 0) (col x 1) (col x 2) s.2 = 0
   ·rw [if_pos h] at ef
    rw [if_pos h, ef]
    exact ih _
   ·rw [if_neg h] at ef
    rw [if_neg h, ef]; rfl
 exact run lines (o, [])
end Go.Proofs.YtikhnofbbcmpeaaGreat
set_option linter.unusedVariables false
set_option maxRecDepth 100000
namespace Go.Proofs.YtikhnofbbcmpeaaGreat
open Go Go.Sy
def cmp3 (x y : List Int) : Int := if col x 0 < col y 0 then -1 else if col y 0 < col x 0 then 1 else if col x 1 < col y 1 then -1 else if col y 1 < col x 1 then 1 else if col x 2 < col y 2 then -1 else if col y 2 < col x 2 then 1 else 0
def cmp2 (x y : List Int) : Int := if col x 0 < col y 0 then -1 else if col y 0 < col x 0 then 1 else if col x 1 < col y 1 then -1 else if col y 1 < col x 1 then 1 else 0
theorem xoI (a b : Int) (r : List Int) (e : Int) (h : orL r = e) : orL ((if a < b then -1 else if b < a then 1 else 0) :: r) = if a < b then -1 else if b < a then 1 else e := by
 unfold orL
 by_cases h1 : a < b
 ·rw [if_pos h1, if_neg (by decide), if_pos h1]
 ·rw [if_neg h1, if_neg h1]
  by_cases h2 : b < a
  ·rw [if_pos h2, if_neg (by decide), if_pos h2]
  ·rw [if_neg h2, if_pos rfl, if_neg h2, h]
theorem xyA : cfO = cmp3 := by
 funext x y
 unfold cfO cmp3
 rw [(xgv _ _ _ _ _ _).2]
 simp only [cmpC]
 exact xoI _ _ _ _ (xoI _ _ _ _ (xoI _ _ _ _ rfl))
theorem xyB : cfG = cmp2 := by
 funext x y
 unfold cfG cmp2
 rw [(xn3 _ _ _ _).2]
 simp only [cmpC]
 exact xoI _ _ _ _ (xoI _ _ _ _ rfl)
def xxZ : List (List Int) → List (List Int) → Int
 | [], [] => 0
 | [], _ :: _ => -1
 | _ :: _, [] => 1
 | x :: r, y :: r' => if cmp3 x y = 0 then xxZ r r' else cmp3 x y
theorem xxk : ∀ x y, cmpL x y = xxZ x y
 | [], [] => rfl
 | [], _ :: _ => rfl
 | _ :: _, [] => rfl
 | x :: r, y :: r' => by
  unfold cmpL xxZ
  rw [xyA, xxk r r']
def xtZ (x b : List (List Int)) : Bool := decide (x.length < b.length) || (x.length == b.length && decide (xxZ x b < 0))
theorem xxo : xey = xtZ := by funext x b; unfold xey xtZ; rw [xxk]
def xrp (list : List (List Int)) (i : Nat) (b : List (List Int)) : List (List Int) := if subB i (allF list) = true then (if xtZ (byF i list) b = true then byF i list else b) else b
def fewC (list : List (List Int)) : List (List Int) := upto (xrp list) (allF list + 1) (byF 0 list)
theorem xtG : fewF = fewC := by
 funext list
 unfold fewF fewC
 have : xdA list = xrp list := by funext i b; unfold xdA xrp; rw [xxo]
 rw [this]
def goC (k : Int → List (List Int) → List (List Int)) (n : Int) : List (List Int) → List (List Int)
 | [] => []
 | g :: r => if ((fewC (r.filter (apF g))).length : Int) = n - 1 then [col g 0, col g 1] :: k (n - 1) (r.filter (apF g)) else goC k n r
def prC : Nat → Int → List (List Int) → List (List Int)
 | 0, _, _ => []
 | m + 1, n, list => if n = 0 then [] else goC (prC m) n list
theorem xyw (k : Int → List (List Int) → List (List Int)) (n : Int) : ∀ l, goP k n l = goC k n l
 | [] => rfl
 | g :: r => by unfold goP goC; rw [xtG, xyw k n r]
theorem xyg : ∀ m n l, prF m n l = prC m n l
 | 0, _, _ => rfl
 | m + 1, n, l => by
  unfold prF prC
  rw [xyw, show prF m = prC m from by funext n l; exact xyg m n l]
def verC (gs om pr : List (List Int)) : Bool := om.length == pr.length && xij cmp3 om && xij cmp2 pr && (match verL om pr [] gs with | some named => named.length == pr.length | none => false)
theorem xyK (gs om pr : List (List Int)) : verF gs om pr = verC gs om pr := by unfold verF verC; rw [xyA, xyB] <;> rfl
def hA0 : List (List Int) := (logF (0, []) [[10, 1, 7]]).2
def hA1 : List (List Int) := (logF (1, []) [[12, 3, 7]]).2
def hA3 : List (List Int) := (logF (3, []) [[5, 4, 0], [20, 5, 0], [40, 2, 9]]).2
noncomputable def xfu : List (List Int) := [[1, encL hA1], [2, encL []], [3, encL hA3]]
def xvo : List ALog := [(1, hA1), (2, []), (3, hA3)]
def hch : List (List Int) := [[1, 7, 10], [2, 7, 10], [3, 7, 10], [2, 9, 30], [3, 9, 30]]
theorem xf9 : xbG 0 [[10, 1, 7]] ∧ xab 0 [[10, 1, 7]] = 0 ∧ xac 0 [[10, 1, 7]] = hA0 := by
 obtain ⟨h1, h2⟩ := xuu 0 [[10, 1, 7]] (by decide)
 exact ⟨h1, (congrArg Prod.fst h2).trans (by decide +kernel), congrArg Prod.snd h2⟩
theorem xza : xbG 1 [[12, 3, 7]] ∧ xab 1 [[12, 3, 7]] = 1 ∧ xac 1 [[12, 3, 7]] = hA1 := by
 obtain ⟨h1, h2⟩ := xuu 1 [[12, 3, 7]] (by decide)
 exact ⟨h1, (congrArg Prod.fst h2).trans (by decide +kernel), congrArg Prod.snd h2⟩
theorem xy9 : xbG 2 [] ∧ xab 2 [] = 2 ∧ xac 2 [] = [] := by
 obtain ⟨h1, h2⟩ := xuu 2 [] (by decide)
 exact ⟨h1, congrArg Prod.fst h2, congrArg Prod.snd h2⟩
theorem xy8 : xbG 3 xag ∧ xab 3 xag = 3 ∧ xac 3 xag = hA3 := by
 obtain ⟨h1, h2⟩ := xuu 3 [[5, 4, 0], [20, 5, 0], [40, 2, 9]] (by decide)
 exact ⟨h1, (congrArg Prod.fst h2).trans (by decide +kernel), congrArg Prod.snd h2⟩
theorem xpP : [xax, [xab (2 : Int) [], encL (xac (2 : Int) [])], [xab (3 : Int) xag, encL (xac (3 : Int) xag)]] = xfu := by
 unfold xax
 rw [xza.2.1, xza.2.2, xy9.2.1, xy9.2.2, xy8.2.1, xy8.2.2]
 rfl
theorem xiz : xaF xfu = xvo := by
 show [((1 : Int), decL (encL hA1)), (2, decL (encL [])), (3, decL (encL hA3))] = _
 rw [xeQ, xeQ, xeQ]
 rfl
theorem xtz : xt5 xfu := by
 intro x hx
 have hx : x = [1, encL hA1] ∨ x = [2, encL []] ∨ x = [3, encL hA3] := by simpa [xfu] using hx
 have l1 : hA1.length ≤ 9223372036854775807 := by decide +kernel
 have l3 : hA3.length ≤ 9223372036854775807 := by decide +kernel
 rcases hx with rfl | rfl | rfl
 ·show (decL (encL hA1)).length ≤ _
  rw [xeQ]; exact l1
 ·show (decL (encL [])).length ≤ _
  rw [xeQ]; decide
 ·show (decL (encL hA3)).length ≤ _
  rw [xeQ]; exact l3
theorem xtA : xja 0 50 5 hA0 xvo hch = true := by decide +kernel
theorem hco1 : coOk 0 1 10 hA0 hA1 hch = true := by decide +kernel
theorem hco3 : coOk 0 3 10 hA0 hA3 hch = true := by decide +kernel
theorem hfew : fewC (xd2 hA0 xvo 50 5 hch) = [[1, 0, 9], [2, 2, 0], [2, 3, 0]] := by decide +kernel
theorem hprv : prC 100 3 (xd2 hA0 xvo 50 5 hch) = [[2, 7], [3, 7], [3, 9]] := by decide +kernel
theorem hgap : xd3 (xd2 hA0 xvo 50 5 hch) = [[2, 7], [2, 9], [3, 7], [3, 9]] := by decide +kernel
theorem hver : verC (xd2 hA0 xvo 50 5 hch) [[1, 0, 9], [2, 2, 0], [2, 3, 0]] [[2, 7], [3, 7], [3, 9]] = true := by decide +kernel
theorem hcr1 : xq2 (xsM 1 10 hA0 hA1 hch) = [7] := by decide +kernel
theorem hcr3 : xq2 (xsM 3 10 hA0 hA3 hch) = [] := by decide +kernel
theorem hsh1 : (valF 1 hA1 && tmF 12) = true ∧ xrQ 12 hA1 = [7] := by decide +kernel
theorem hva3 : valF 3 hA3 = true := by decide +kernel
theorem xwB : hA0.length ≤ 9223372036854775807 := by decide +kernel
theorem xzL : hA1.length ≤ 9223372036854775807 := by decide +kernel
theorem xy3 : hA3.length ≤ 9223372036854775807 := by decide +kernel
theorem xy7 : xfu.length ≤ 9223372036854775807 := by show 3 ≤ 9223372036854775807; decide
theorem xwI : hch.length ≤ 9223372036854775807 := by decide
theorem hE : xbr 0 50 5 hA0 xfu hch ∧ xaZ 0 50 5 hA0 xfu hch = [[1, 0, 9], [2, 2, 0], [2, 3, 0]] ∧ xa8 0 50 5 hA0 xfu hch = [[2, 7], [3, 7], [3, 9]] ∧ xbv 0 50 5 hA0 xfu hch = 0 := by
 obtain ⟨h1, h2, h3, h4⟩ := xqB (ow := 0) (t := 50) (delay := 5) xwB xy7 xwI xtz (.inl (by decide))
 rw [xiz, xtA, if_pos rfl, xtG, hfew] at h2
 rw [xiz, xtA, if_pos rfl, xtG, hfew, xyg] at h3
 rw [xiz, xtA, if_pos rfl] at h4
 exact ⟨h1, h2, h3.trans hprv, h4⟩
theorem hG : xcH 0 50 5 hA0 xfu hch ∧ xdL 0 50 5 hA0 xfu hch = [[2, 7], [2, 9], [3, 7], [3, 9]] ∧ xdK 0 50 5 hA0 xfu hch = 0 := by
 obtain ⟨h1, h2, h3⟩ := xzv (ow := 0) (t := 50) (delay := 5) xwB xy7 xwI xtz
 rw [xiz, xtA, if_pos rfl, hgap] at h2
 rw [xiz, xtA, if_pos rfl] at h3
 exact ⟨h1, h2, h3⟩
theorem hV : xbj 0 50 5 hA0 xfu hch [[1, 0, 9], [2, 2, 0], [2, 3, 0]] [[2, 7], [3, 7], [3, 9]] ∧ xbI 0 50 5 hA0 xfu hch [[1, 0, 9], [2, 2, 0], [2, 3, 0]] [[2, 7], [3, 7], [3, 9]] = true ∧ xb8 0 50 5 hA0 xfu hch [[1, 0, 9], [2, 2, 0], [2, 3, 0]] [[2, 7], [3, 7], [3, 9]] = 0 := by
 obtain ⟨h1, h2, h3⟩ := xpz (ow := 0) (t := 50) (delay := 5) (office := hA0) (ships := xfu) (list := hch) (om := [[1, 0, 9], [2, 2, 0], [2, 3, 0]]) (pr := [[2, 7], [3, 7], [3, 9]]) xwB xy7 xwI xtz (by decide) (by decide)
 rw [xiz, xtA, xyK, hver] at h2
 rw [xiz, xtA, if_pos rfl] at h3
 exact ⟨h1, h2, h3⟩
theorem hC1 : xbw 0 1 10 hA0 hA1 hch ∧ xcB 0 1 10 hA0 hA1 hch = [[7]] ∧ xcA 0 1 10 hA0 hA1 hch = 0 := by
 obtain ⟨h1, h2, h3⟩ := xuY 0 1 10 hA0 hA1 hch xwB xzL xwI
 rw [hco1, if_pos rfl, hcr1] at h2
 rw [hco1, if_pos rfl] at h3
 exact ⟨h1, h2, h3⟩
theorem hC3 : xbw 0 3 10 hA0 hA3 hch ∧ xcB 0 3 10 hA0 hA3 hch = [] ∧ xcA 0 3 10 hA0 hA3 hch = 0 := by
 obtain ⟨h1, h2, h3⟩ := xuY 0 3 10 hA0 hA3 hch xwB xy3 xwI
 rw [hco3, if_pos rfl, hcr3] at h2
 rw [hco3, if_pos rfl] at h3
 exact ⟨h1, h2, h3⟩
theorem hS1 : xcn 1 12 hA1 ∧ xcy 1 12 hA1 = [[7]] ∧ xcZ 1 12 hA1 = 0 := by
 obtain ⟨h1, h2, h3⟩ := xx5 1 12 hA1 xzL
 rw [hsh1.1, if_pos rfl, hsh1.2] at h2
 rw [hsh1.1, if_pos rfl] at h3
 exact ⟨h1, h2, h3⟩
theorem xyt : xaC = [1, encL hA1] := by unfold xaC; rw [xpP]; rfl
theorem xys : xbg = [3, encL hA3] := by unfold xbg; rw [xpP]; rfl
theorem xi4 : ([(1 : Int), (7 : Int), (10 : Int)] :: [(2 : Int), (7 : Int), (10 : Int)] :: xaS) = hch := rfl
theorem g20 : (xaC).getD 0 (0 : Int) = 1 := by rw [xyt]; rfl
theorem g21 : decL ((xaC).getD 1 (0 : Int)) = hA1 := by rw [xyt]; exact xeQ _
theorem g40 : (xbg).getD 0 (0 : Int) = 3 := by rw [xys]; rfl
theorem g41 : decL ((xbg).getD 1 (0 : Int)) = hA3 := by rw [xys]; exact xeQ _
theorem hd5 : xcP = [[1, 0, 9], [2, 2, 0], [2, 3, 0]] := by
 unfold xcP
 rw [xf9.2.1, xf9.2.2, xpP, xi4, hE.2.1]
theorem hd6 : xcp = [[2, 7], [3, 7], [3, 9]] := by
 unfold xcp
 rw [xf9.2.1, xf9.2.2, xpP, xi4, hE.2.2.1]
theorem hd7 : xgi = 0 := by
 unfold xgi
 rw [xf9.2.1, xf9.2.2, g20, g21, xi4, hC1.2.2]
theorem hd8 : xgh = 0 := by
 unfold xgh
 rw [xf9.2.1, xf9.2.2, g40, g41, xi4, hC3.2.2]
theorem hd9 : xgg = 0 := by
 unfold xgg
 rw [xf9.2.1, xf9.2.2, xpP, xi4, hG.2.2]
theorem hd10 : xfR = 0 := by
 unfold xfR
 rw [xf9.2.1, xf9.2.2, xpP, xi4, hE.2.2.2]
theorem hd11 : xfQ = 0 := by
 unfold xfQ
 rw [xf9.2.1, xf9.2.2, xpP, xi4, hd5, hd6, hV.2.2]
theorem hd12 : xeG = [[7]] := by
 unfold xeG
 rw [xf9.2.1, xf9.2.2, g20, g21, xi4, hC1.2.1]
theorem hd13 : xfP = [] := by
 unfold xfP
 rw [xf9.2.1, xf9.2.2, g40, g41, xi4, hC3.2.1]
theorem hd14 : xeF = [[2, 7], [2, 9], [3, 7], [3, 9]] := by
 unfold xeF
 rw [xf9.2.1, xf9.2.2, xpP, xi4, hG.2.1]
theorem xwH : xee = true := by
 unfold xee
 rw [xpP, xi4, xf9.2.1, xf9.2.2, hd5, hd6, hd7, hd8, hd9, hd10, hd11, hd12, hd13, hd14, g20, g21, g40, g41, hS1.2.1, hS1.2.2, hV.2.1, (xt6 _ _ (by decide)).2, (xiN _ _ (by decide)).2, (xs2 _ _ (by decide)).2, (xiN _ _ (by decide)).2, (xe0 3 hA3 xy3).2, hva3]
 rfl
theorem xrh : xdI := by
 unfold xdI
 rw [xpP, xi4, xf9.2.1, xf9.2.2, hd5, hd6, hd12, hd14, g20, g21, g40, g41, hS1.2.1]
 have r0 : inR (0 : Int) xfu := ⟨by decide, by show (0 : Int) < 3; decide⟩
 have r2 : inR (2 : Int) xfu := ⟨by decide, by show (2 : Int) < 3; decide⟩
 exact ⟨⟨xza.1, xy9.1, xy8.1, xf9.1⟩, r0, r0, hC1.1, r2, r2, hC3.1, hG.1, hE.1, hV.1, r0, r0, hS1.1, fun _ => ⟨(xt6 _ _ (by decide)).1, fun _ => ⟨(xt6 _ _ (by decide)).1, fun _ => ⟨(xiN _ _ (by decide)).1, fun _ => ⟨(xs2 _ _ (by decide)).1, fun _ => ⟨(xiN _ _ (by decide)).1, fun _ => r2, fun _ => ⟨r2, (xe0 3 hA3 xy3).1⟩⟩⟩⟩⟩⟩⟩
end Go.Proofs.YtikhnofbbcmpeaaGreat
set_option linter.unusedVariables false
namespace Go.Koen
set_option linter.unusedSectionVars false
section
variable {ε α β : Type} [DecidableEq α] [DecidableEq β] (l : ε → α) (r : ε → Option β)
def Cov (A : α → Bool) (B : β → Bool) (e : ε) : Prop := A (l e) = true ∨ ∃ b, r e = some b ∧ B b = true
def xpC (e f : ε) : Prop := l e ≠ l f ∧ ∀ b, r e = some b → r f ≠ some b
def size (UA : List α) (UB : List β) (A : α → Bool) (B : β → Bool) : Nat := UA.countP A + UB.countP B
theorem xiF {γ : Type} {p q : γ → Bool} (h : ∀ x, p x = true → q x = true) : ∀ l : List γ, l.countP p ≤ l.countP q
 | [] => Nat.le_refl _
 | x :: t => by
  have := xiF h t
  rw [List.countP_cons, List.countP_cons]
  have h1 := h x
  cases hp : p x <;> cases hq : q x <;> simp_all <;> omega
theorem xmU {γ : Type} [DecidableEq γ] {p : γ → Bool} {v : γ} : ∀ {l : List γ}, v ∈ l → p v = true → l.countP (fun x => p x && decide (x ≠ v)) + 1 ≤ l.countP p
 | [], h, _ => by cases h
 | x :: t, h, hp => by
  rw [List.countP_cons, List.countP_cons]
  by_cases e : x = v
  ·subst e
   have := xiF (p := fun y => p y && decide (y ≠ x)) (q := p) (fun y hy => by simp_all) t
   simp only [hp]
   simp
   simpa using this
  ·have hm : v ∈ t := by
    rcases List.mem_cons.1 h with h | h
    ·exact absurd h.symm e
    ·exact h
   have := xmU hm hp
   cases hx : p x <;> simp_all <;> omega
theorem xkc {γ : Type} [DecidableEq γ] {p : γ → Bool} {v : γ} : ∀ {l : List γ}, l.Nodup → l.countP (fun x => p x || decide (x = v)) ≤ l.countP p + 1
 | [], _ => Nat.zero_le _
 | x :: t, h => by
  rw [List.countP_cons, List.countP_cons]
  have ht := (List.nodup_cons.1 h)
  by_cases e : x = v
  ·subst e
   have h0 : t.countP (fun y => p y || decide (y = x)) = t.countP p := by
    refine List.countP_congr fun y hy => ?_
    have : y ≠ x := fun e => ht.1 (e ▸ hy)
    simp [this]
   rw [h0]
   cases p x <;> simp
  ·have := xkc (p := p) (v := v) ht.2
   cases hx : p x <;> simp_all <;> omega
theorem xmT {γ : Type} (p q p' q' : γ → Bool) (h : ∀ x, (p' x).toNat + (q' x).toNat = (p x).toNat + (q x).toNat) : ∀ l : List γ, l.countP p' + l.countP q' = l.countP p + l.countP q
 | [] => rfl
 | x :: t => by
  have ih := xmT p q p' q' h t
  have h1 := h x
  simp only [List.countP_cons]
  cases hp : p x <;> cases hq : q x <;> cases hp' : p' x <;> cases hq' : q' x <;> simp_all <;> omega
variable {l r}
theorem weak {UA : List α} {UB : List β} : ∀ {M : List ε} {A : α → Bool} {B : β → Bool}, M.Pairwise (xpC l r) → (∀ e ∈ M, Cov l r A B e) → (∀ e ∈ M, l e ∈ UA ∧ ∀ b, r e = some b → b ∈ UB) → M.length ≤ size UA UB A B
 | [], _, _, _, _, _ => Nat.zero_le _
 | e :: M, A, B, hM, hC, hU => by
  obtain ⟨h1, h2⟩ := List.pairwise_cons.1 hM
  have hU' : ∀ e ∈ M, l e ∈ UA ∧ ∀ b, r e = some b → b ∈ UB := fun f hf => hU f (List.mem_cons_of_mem _ hf)
  rcases hC e List.mem_cons_self with hA | ⟨b, hb, hB⟩
  ·have := weak (A := fun x => A x && decide (x ≠ l e)) (B := B) h2 (fun f hf => by
    rcases hC f (List.mem_cons_of_mem _ hf) with h | h
    ·exact .inl (by simp [h, Ne.symm (h1 f hf).1])
    ·exact .inr h) hU'
   have hd := xmU (p := A) (hU e List.mem_cons_self).1 hA
   simp only [List.length_cons]
   unfold size at *
   omega
  ·have := weak (A := A) (B := fun x => B x && decide (x ≠ b)) h2 (fun f hf => by
    rcases hC f (List.mem_cons_of_mem _ hf) with h | ⟨b', hb', hB'⟩
    ·exact .inl h
    ·refine .inr ⟨b', hb', ?_⟩
     have : b' ≠ b := fun e' => (h1 f hf).2 b hb (by rw [hb', e'])
     simp [hB', this]) hU'
   have hd := xmU (p := B) ((hU e List.mem_cons_self).2 b hb) hB
   simp only [List.length_cons]
   unfold size at *
   omega
theorem xAT (UA : List α) (UB : List β) (L : List ε) : ∃ A B, (∀ e ∈ L, Cov l r A B e) ∧ ∀ A' B', (∀ e ∈ L, Cov l r A' B' e) → size UA UB A B ≤ size UA UB A' B' := by
 have key : ∀ n, (∃ A B, (∀ e ∈ L, Cov l r A B e) ∧ size UA UB A B ≤ n) → ∃ A B, (∀ e ∈ L, Cov l r A B e) ∧ ∀ A' B', (∀ e ∈ L, Cov l r A' B' e) → size UA UB A B ≤ size UA UB A' B' := by
  intro n
  induction n with
  | zero =>
   rintro ⟨A, B, h1, h2⟩
   exact ⟨A, B, h1, fun A' B' _ => by omega⟩
  | succ n ih =>
   rintro ⟨A, B, h1, h2⟩
   by_cases h : ∃ A B, (∀ e ∈ L, Cov l r A B e) ∧ size UA UB A B ≤ n
   ·exact ih h
   ·refine ⟨A, B, h1, fun A' B' h' => ?_⟩
    have : ¬ size UA UB A' B' ≤ n := fun h3 => h ⟨A', B', h', h3⟩
    omega
 exact key (size UA UB (fun _ => true) (fun _ => true)) ⟨fun _ => true, fun _ => true, fun e _ => .inl rfl, Nat.le_refl _⟩
theorem xuv {UA : List α} {UB : List β} (hA : UA.Nodup) : ∀ L : List ε, size UA UB (fun x => decide (x ∈ L.map l)) (fun _ => false) ≤ L.length
 | [] => by simp [size]
 | e :: L => by
  have ih := xuv (UB := UB) hA L
  have h := xkc (p := fun x => decide (x ∈ L.map l)) (v := l e) hA
  have h2 : UA.countP (fun x => decide (x ∈ (e :: L).map l)) ≤ UA.countP (fun x => decide (x ∈ L.map l) || decide (x = l e)) := xiF (fun x hx => by
   have : x ∈ (e :: L).map l := by simpa using hx
   rw [List.map_cons] at this
   rcases List.mem_cons.1 this with h | h
   ·simp [h]
   ·simp [h]) UA
  unfold size at *
  simp only [List.length_cons]
  omega
theorem xnd {ε : Type} {R : ε → ε → Prop} [∀ a b, Decidable (R a b)] : ∀ {L : List ε}, ¬ L.Pairwise R → ∃ L1 e L2 f L3, L = L1 ++ e :: (L2 ++ f :: L3) ∧ ¬ R e f
 | [], h => absurd List.Pairwise.nil h
 | x :: t, h => by
  by_cases h1 : ∀ y ∈ t, R x y
  ·obtain ⟨L1, e, L2, f, L3, h2, h3⟩ := xnd (L := t) fun h2 => h (List.pairwise_cons.2 ⟨h1, h2⟩)
   exact ⟨x :: L1, e, L2, f, L3, by rw [h2]; rfl, h3⟩
  ·have : ∃ y ∈ t, ¬ R x y := Classical.byContradiction fun hn => h1 fun y hy => Classical.byContradiction fun hr => hn ⟨y, hy, hr⟩
   obtain ⟨y, hy, hr⟩ := this
   obtain ⟨L2, L3, rfl⟩ := List.append_of_mem hy
   exact ⟨[], x, L2, y, L3, rfl, hr⟩
theorem xym {UA : List α} {UB : List β} (hA : UA.Nodup) (hB : UB.Nodup) : ∀ (n : Nat) (L : List ε), L.length ≤ n → (∀ e ∈ L, l e ∈ UA ∧ ∀ b, r e = some b → b ∈ UB) →
  ∃ M : List ε, M.Sublist L ∧ M.Pairwise (xpC l r) ∧ ∃ A B, (∀ e ∈ L, Cov l r A B e) ∧ size UA UB A B = M.length
 | 0, L, hn, _ => by
  have : L = [] := List.eq_nil_of_length_eq_zero (by omega)
  subst this
  exact ⟨[], List.Sublist.refl _, List.Pairwise.nil, fun _ => false, fun _ => false, (fun e he => by cases he), by simp [size]⟩
 | n + 1, L, hn, hU => by
  obtain ⟨A0, B0, hc0, hmin⟩ := xAT (l := l) (r := r) UA UB L
  by_cases hcrit : ∃ L1 e L2, L = L1 ++ e :: L2 ∧ ∀ A B, (∀ f ∈ L1 ++ L2, Cov l r A B f) → size UA UB A0 B0 ≤ size UA UB A B
  ·obtain ⟨L1, e, L2, rfl, hge⟩ := hcrit
   have hsub : (L1 ++ L2).Sublist (L1 ++ e :: L2) := List.Sublist.append (List.Sublist.refl _) (List.sublist_cons_self _ _)
   obtain ⟨M, h1, h2, A, B, h3, h4⟩ := xym hA hB n (L1 ++ L2) (by simp at hn ⊢; omega) fun f hf => hU f (hsub.subset hf)
   have hM := h1.trans hsub
   refine ⟨M, hM, h2, A0, B0, hc0, ?_⟩
   have := weak h2 (fun f hf => hc0 f (hM.subset hf)) fun f hf => hU f (hM.subset hf)
   have := hge A B h3
   omega
  ·have hcrit : ∀ L1 e L2, L = L1 ++ e :: L2 → ∃ A B, (∀ f ∈ L1 ++ L2, Cov l r A B f) ∧ size UA UB A B + 1 ≤ size UA UB A0 B0 := by
    intro L1 e L2 hL
    refine Classical.byContradiction fun hno => hcrit ⟨L1, e, L2, hL, fun A B hAB => ?_⟩
    refine Classical.byContradiction fun hlt => hno ⟨A, B, hAB, by omega⟩
   by_cases hp : L.Pairwise (xpC l r)
   ·refine ⟨L, List.Sublist.refl _, hp, A0, B0, hc0, ?_⟩
    have h1 := weak hp hc0 hU
    have h2 := hmin (fun x => decide (x ∈ L.map l)) (fun _ => false) fun e he => .inl (by simpa using ⟨e, he, rfl⟩)
    have h3 := xuv (l := l) (UB := UB) hA L
    omega
   ·exfalso
    have _inst : ∀ a b : ε, Decidable (xpC l r a b) := fun a b => Classical.propDecidable _
    obtain ⟨L1, e, L2, f, L3, rfl, hef⟩ := xnd hp
    obtain ⟨Ae, Be, he, hse⟩ := hcrit L1 e (L2 ++ f :: L3) rfl
    obtain ⟨Af, Bf, hf, hsf⟩ := hcrit (L1 ++ e :: L2) f L3 (by simp)
    have nte : ¬ Cov l r Ae Be e := fun hcv => by
     have := hmin Ae Be fun g hg => by
      rcases List.mem_append.1 hg with hg | hg
      ·exact he g (List.mem_append.2 (.inl hg))
      ·rcases List.mem_cons.1 hg with rfl | hg
       ·exact hcv
       ·exact he g (List.mem_append.2 (.inr hg))
     omega
    have ntf : ¬ Cov l r Af Bf f := fun hcv => by
     have := hmin Af Bf fun g hg => by
      rcases List.mem_append.1 hg with hg | hg
      ·exact hf g (by simp [hg])
      ·rcases List.mem_cons.1 hg with rfl | hg
       ·exact hf g (by simp)
       ·rcases List.mem_append.1 hg with hg | hg
        ·exact hf g (by simp [hg])
        ·rcases List.mem_cons.1 hg with rfl | hg
         ·exact hcv
         ·exact hf g (by simp [hg])
     omega
    have cfe : Cov l r Ae Be f := he f (by simp)
    have cef : Cov l r Af Bf e := hf e (by simp)
    have other : ∀ g ∈ L1 ++ e :: (L2 ++ f :: L3), g = e ∨ g = f ∨ (Cov l r Ae Be g ∧ Cov l r Af Bf g) := fun g hg => by
     simp only [List.mem_append, List.mem_cons] at hg
     rcases hg with hg | rfl | hg | rfl | hg
     ·exact .inr (.inr ⟨he g (by simp [hg]), hf g (by simp [hg])⟩)
     ·exact .inl rfl
     ·exact .inr (.inr ⟨he g (by simp [hg]), hf g (by simp [hg])⟩)
     ·exact .inr (.inl rfl)
     ·exact .inr (.inr ⟨he g (by simp [hg]), hf g (by simp [hg])⟩)
    have hsum : size UA UB (fun x => Ae x || Af x) (fun x => Be x && Bf x) + size UA UB (fun x => Ae x && Af x) (fun x => Be x || Bf x) = size UA UB Ae Be + size UA UB Af Bf := by
     have h1 := xmT Ae Af (fun x => Ae x || Af x) (fun x => Ae x && Af x) (fun x => by cases Ae x <;> cases Af x <;> rfl) UA
     have h2 := xmT Be Bf (fun x => Be x && Bf x) (fun x => Be x || Bf x) (fun x => by cases Be x <;> cases Bf x <;> rfl) UB
     unfold size
     omega
    have both1 : ∀ g, Cov l r Ae Be g → Cov l r Af Bf g → Cov l r (fun x => Ae x || Af x) (fun x => Be x && Bf x) g := by
     intro g h1 h2
     rcases h1 with h1 | ⟨b, hb, h1⟩
     ·exact .inl (by simp [h1])
     ·rcases h2 with h2 | ⟨b', hb', h2⟩
      ·exact .inl (by simp [h2])
      ·rw [hb] at hb'; cases hb'
       exact .inr ⟨b, hb, by simp [h1, h2]⟩
    have both2 : ∀ g, Cov l r Ae Be g → Cov l r Af Bf g → Cov l r (fun x => Ae x && Af x) (fun x => Be x || Bf x) g := by
     intro g h1 h2
     rcases h1 with h1 | ⟨b, hb, h1⟩
     ·rcases h2 with h2 | ⟨b', hb', h2⟩
      ·exact .inl (by simp [h1, h2])
      ·exact .inr ⟨b', hb', by simp [h2]⟩
     ·exact .inr ⟨b, hb, by simp [h1]⟩
    have hshare : l e = l f ∨ ∃ b, r e = some b ∧ r f = some b := by
     refine Classical.byContradiction fun hn => hef ⟨fun h => hn (.inl h), fun b hb hb' => hn (.inr ⟨b, hb, hb'⟩)⟩
    rcases hshare with hl | ⟨b, hbe, hbf⟩
    ·have a1 : Ae (l e) = false := by
      cases h : Ae (l e) with
      | false => rfl
      | true => exact absurd (.inl h) nte
     have a2 : Af (l f) = false := by
      cases h : Af (l f) with
      | false => rfl
      | true => exact absurd (.inl h) ntf
     have re : ∃ b, r e = some b ∧ Bf b = true := by
      rcases cef with h | h
      ·rw [hl, a2] at h; cases h
      ·exact h
     have rf' : ∃ b, r f = some b ∧ Be b = true := by
      rcases cfe with h | h
      ·rw [← hl, a1] at h; cases h
      ·exact h
     have g1 := hmin (fun x => Ae x && Af x) (fun x => Be x || Bf x) fun g hg => by
      rcases other g hg with rfl | rfl | ⟨h1, h2⟩
      ·obtain ⟨b, hb, h⟩ := re
       exact .inr ⟨b, hb, by simp [h]⟩
      ·obtain ⟨b, hb, h⟩ := rf'
       exact .inr ⟨b, hb, by simp [h]⟩
      ·exact both2 g h1 h2
     have g2 := hmin (fun x => (Ae x || Af x) || decide (x = l e)) (fun x => Be x && Bf x) fun g hg => by
      rcases other g hg with rfl | rfl | ⟨h1, h2⟩
      ·exact .inl (by simp)
      ·exact .inl (by simp [hl])
      ·rcases both1 g h1 h2 with h | h
       ·exact .inl (by simp only [Bool.or_eq_true] at h ⊢; exact .inl h)
       ·exact .inr h
     have g3 := xkc (p := fun x => Ae x || Af x) (v := l e) hA
     unfold size at *
     omega
    ·have b1 : Be b = false := by
      cases h : Be b with
      | false => rfl
      | true => exact absurd (.inr ⟨b, hbe, h⟩) nte
     have b2 : Bf b = false := by
      cases h : Bf b with
      | false => rfl
      | true => exact absurd (.inr ⟨b, hbf, h⟩) ntf
     have le : Af (l e) = true := by
      rcases cef with h | ⟨b', hb', h⟩
      ·exact h
      ·rw [hbe] at hb'; cases hb'; rw [b2] at h; cases h
     have lf : Ae (l f) = true := by
      rcases cfe with h | ⟨b', hb', h⟩
      ·exact h
      ·rw [hbf] at hb'; cases hb'; rw [b1] at h; cases h
     have g1 := hmin (fun x => Ae x || Af x) (fun x => Be x && Bf x) fun g hg => by
      rcases other g hg with rfl | rfl | ⟨h1, h2⟩
      ·exact .inl (by simp [le])
      ·exact .inl (by simp [lf])
      ·exact both1 g h1 h2
     have g2 := hmin (fun x => Ae x && Af x) (fun x => (Be x || Bf x) || decide (x = b)) fun g hg => by
      rcases other g hg with rfl | rfl | ⟨h1, h2⟩
      ·exact .inr ⟨b, hbe, by simp⟩
      ·exact .inr ⟨b, hbf, by simp⟩
      ·rcases both2 g h1 h2 with h | ⟨b', hb', h⟩
       ·exact .inl h
       ·exact .inr ⟨b', hb', by simp only [Bool.or_eq_true] at h ⊢; exact .inl h⟩
     have g3 := xkc (p := fun x => Be x || Bf x) (v := b) hB
     unfold size at *
     omega
end
end Go.Koen
set_option linter.unusedVariables false
set_option maxRecDepth 100000
namespace Go.Proofs.YtikhnofbbcmpeaaGreat
open Go Go.Sy Go.Koen
theorem xe8 {α : Type} [DecidableEq α] : ∀ {l l' : List α}, l.Nodup → (∀ x ∈ l, x ∈ l') → l.length ≤ l'.length
 | [], _, _, _ => Nat.zero_le _
 | x :: r, l', hn, hs => by
  obtain ⟨h1, h2⟩ := List.nodup_cons.1 hn
  have hx := hs x List.mem_cons_self
  have := xe8 (l := r) (l' := l'.erase x) h2 fun y hy => (List.mem_erase_of_ne (fun e : y = x => h1 (by rw [← e]; exact hy))).2 (hs y (List.mem_cons_of_mem _ hy))
  rw [List.length_erase_of_mem hx] at this
  have : 0 < l'.length := List.length_pos_of_mem hx
  simp only [List.length_cons]
  omega
theorem xr9 {α : Type} [DecidableEq α] {l l' : List α} (h : l.Nodup) (h' : l'.Nodup) (hm : ∀ x, x ∈ l ↔ x ∈ l') : l.length = l'.length :=
 Nat.le_antisymm (xe8 h fun x hx => (hm x).1 hx) (xe8 h' fun x hx => (hm x).2 hx)
theorem xr8 {α : Type} [DecidableEq α] {l l' : List α} (h : l.Nodup) {y : α} (hy : y ∈ l') (hy' : y ∉ l) (hs : ∀ x ∈ l, x ∈ l') : l.length < l'.length := by
 have := xe8 (l := y :: l) (List.nodup_cons.2 ⟨hy', h⟩) (l' := l') fun x hx => by
  rcases List.mem_cons.1 hx with rfl | hx
  ·exact hy
  ·exact hs x hx
 rw [List.length_cons] at this
 omega
theorem xj2 (m : Nat) (list : List (List Int)) : (byF m list).Nodup := by
 refine List.nodup_iff_pairwise_ne.2 ((xrD m list).1.imp fun {a b} h e => ?_)
 subst e
 have := xed [0, 1, 2] a a
 rw [h] at this
 simp at this
theorem xxn (m : Nat) (list : List (List Int)) (x : List Int) : x ∈ xhv m list ↔ (∃ k, k < 9 ∧ m.testBit k = true ∧ x = rOn k) ∨ ∃ g ∈ list, cov m g = false ∧ x = lft g := by
 unfold xhv
 rw [List.mem_append, List.mem_map, List.mem_map]
 constructor
 ·rintro (⟨k, hk, rfl⟩ | ⟨g, hg, rfl⟩)
  ·obtain ⟨h1, h2⟩ := List.mem_filter.1 hk
   exact .inl ⟨k, List.mem_range.1 h1, h2, rfl⟩
  ·obtain ⟨h1, h2⟩ := List.mem_filter.1 hg
   exact .inr ⟨g, h1, by simpa using h2, rfl⟩
 ·rintro (⟨k, h1, h2, rfl⟩ | ⟨g, h1, h2, rfl⟩)
  ·exact .inl ⟨k, List.mem_filter.2 ⟨List.mem_range.2 h1, h2⟩, rfl⟩
  ·exact .inr ⟨g, List.mem_filter.2 ⟨h1, by rw [h2]; rfl⟩, rfl⟩
theorem xiI (m : Nat) (list : List (List Int)) (x : List Int) : x ∈ byF m list ↔ (∃ k, k < 9 ∧ m.testBit k = true ∧ x = rOn k) ∨ ∃ g ∈ list, cov m g = false ∧ x = lft g := by
 rw [(xrD m list).2, xxn]
theorem xyl (g : List Int) (k : Nat) : lft g ≠ rOn k := by
 unfold lft rOn
 split <;> simp
theorem xuI (list : List (List Int)) : ∀ n, (∃ m, (m = 0 ∨ m < n) ∧ upto (xdA list) n (byF 0 list) = byF m list) ∧ ∀ m, m < n → subB m (allF list) = true → xey (byF m list) (upto (xdA list) n (byF 0 list)) = false
 | 0 => ⟨⟨0, .inl rfl, rfl⟩, fun m h => by omega⟩
 | n + 1 => by
  obtain ⟨⟨m, hm, he⟩, h2⟩ := xuI list n
  have e : upto (xdA list) (n + 1) (byF 0 list) = xdA list n (upto (xdA list) n (byF 0 list)) := rfl
  rw [e]
  generalize upto (xdA list) n (byF 0 list) = b at *
  unfold xdA
  by_cases hs : subB n (allF list) = true
  ·rw [if_pos hs]
   by_cases hb : xey (byF n list) b = true
   ·rw [if_pos hb]
    refine ⟨⟨n, .inr (by omega), rfl⟩, fun m' hm' hs' => ?_⟩
    by_cases e' : m' = n
    ·rw [e']; exact xvH _
    ·cases hbb : xey (byF m' list) (byF n list) with
     | false => rfl
     | true =>
      have := xnw hbb hb
      rw [h2 m' (by omega) hs'] at this
      cases this
   ·rw [if_neg hb]
    refine ⟨⟨m, hm.imp id fun h => by omega, he⟩, fun m' hm' hs' => ?_⟩
    by_cases e' : m' = n
    ·rw [e']; simpa using hb
    ·exact h2 m' (by omega) hs'
  ·rw [if_neg hs]
   refine ⟨⟨m, hm.imp id fun h => by omega, he⟩, fun m' hm' hs' => ?_⟩
   by_cases e' : m' = n
   ·rw [e'] at hs'; exact absurd hs' hs
   ·exact h2 m' (by omega) hs'
theorem xvP {m a : Nat} (hm : m < 512) (h : subB m a = true) : m ≤ a := by
 have e : m &&& a = m := by
  apply Nat.eq_of_testBit_eq
  intro i
  rw [Nat.testBit_and]
  by_cases h9 : i < 9
  ·have := List.all_eq_true.1 h i (List.mem_range.2 h9)
   cases h1 : m.testBit i <;> cases h2 : a.testBit i <;> simp_all
  ·rw [xp0 hm (by omega)]; rfl
 rw [← e]
 exact Nat.and_le_right
theorem xlV {list : List (List Int)} (hs : xcK list) : (∃ m, m < 512 ∧ fewF list = byF m list) ∧ ∀ m, m < 512 → xey (byF m list) (fewF list) = false := by
 obtain ⟨hall, hbit⟩ := xuU hs
 obtain ⟨⟨m0, hm0, he⟩, hmin⟩ := xuI list (allF list + 1)
 have he : fewF list = byF m0 list := he
 have hmin : ∀ m, m < allF list + 1 → subB m (allF list) = true → xey (byF m list) (fewF list) = false := hmin
 refine ⟨⟨m0, by omega, he⟩, fun m hm => ?_⟩
 by_cases hsub : subB m (allF list) = true
 ·exact hmin m (by have := xvP hm hsub; omega) hsub
 ·have hlt : m &&& allF list < 512 := Nat.and_lt_two_pow (n := 9) _ hall
  have hsub' : subB (m &&& allF list) (allF list) = true := List.all_eq_true.2 fun k _ => by
   rw [Nat.testBit_and]
   cases m.testBit k <;> cases (allF list).testBit k <;> rfl
  have h1 := hmin (m &&& allF list) (by have := xvP hlt hsub'; omega) hsub'
  obtain ⟨k, hk, hk'⟩ : ∃ k, k < 9 ∧ (!m.testBit k || (allF list).testBit k) = false := by
   refine Classical.byContradiction fun hn => hsub (List.all_eq_true.2 fun k hk => ?_)
   cases h : (!m.testBit k || (allF list).testBit k) with
   | true => rfl
   | false => exact absurd ⟨k, List.mem_range.1 hk, h⟩ hn
  have hk1 : m.testBit k = true ∧ (allF list).testBit k = false := by
   cases h1 : m.testBit k <;> cases h2 : (allF list).testBit k <;> simp_all
  have hcov : ∀ g ∈ list, cov (m &&& allF list) g = cov m g := fun g hg => by
   unfold cov
   cases h3 : (col g 3 != 0) with
   | false => rfl
   | true =>
    have : (allF list).testBit (col g 0).toNat = true := by
     rw [hbit, List.any_eq_true]
     exact ⟨g, hg, by rw [h3]; simp⟩
    rw [Nat.testBit_and, this, Bool.and_true]
  have hlen : (byF (m &&& allF list) list).length < (byF m list).length := by
   refine xr8 (xj2 _ _) (y := rOn k) ((xiI _ _ _).2 (.inl ⟨k, hk, hk1.1, rfl⟩)) (fun h => ?_) fun x hx => ?_
   ·rcases (xiI _ _ _).1 h with ⟨k', _, hb, e⟩ | ⟨g, _, _, e⟩
    ·have : k = k' := by
      have e1 : ((k : Nat) : Int) = (k' : Int) := by
       unfold rOn at e
       simpa using e
      omega
     subst this
     rw [Nat.testBit_and, hk1.2, Bool.and_false] at hb
     cases hb
    ·exact xyl g k e.symm
   ·rcases (xiI _ _ _).1 hx with ⟨k', h1, hb, e⟩ | ⟨g, h1, h2, e⟩
    ·rw [Nat.testBit_and, Bool.and_eq_true] at hb
     exact (xiI _ _ _).2 (.inl ⟨k', h1, hb.1, e⟩)
    ·exact (xiI _ _ _).2 (.inr ⟨g, h1, by rw [← hcov g h1]; exact h2, e⟩)
  cases hb : xey (byF m list) (fewF list) with
  | false => rfl
  | true =>
   have : xey (byF (m &&& allF list) list) (byF m list) = true := by unfold xey; rw [decide_eq_true hlen]; rfl
   have := xnw this hb
   rw [h1] at this
   cases this
theorem xzm {list : List (List Int)} (hs : xcK list) {m : Nat} (hm : m < 512) : (fewF list).length ≤ (byF m list).length := by
 have := (xlV hs).2 m hm
 unfold xey at this
 simp only [Bool.or_eq_false_iff, decide_eq_false_iff_not] at this
 omega
def rt (g : List Int) : Option Int := if col g 3 = 0 then none else some (col g 0)
def uB : List Int := [0, 1, 2, 3, 4, 5, 6, 7, 8]
theorem xx9 (k : Int) : k ∈ uB ↔ 0 ≤ k ∧ k ≤ 8 := by
 unfold uB
 simp only [List.mem_cons, List.not_mem_nil, or_false]
 omega
theorem xt8 : uB.Nodup := by decide
theorem xvO (list : List (List Int)) (x : List Int) : x ∈ byF 0 list ↔ ∃ g ∈ list, x = lft g := by
 rw [xiI]
 constructor
 ·rintro (⟨k, _, h, _⟩ | ⟨g, h, _, e⟩)
  ·simp at h
  ·exact ⟨g, h, e⟩
 ·rintro ⟨g, h, e⟩
  exact .inr ⟨g, h, by unfold cov; simp, e⟩
theorem xxa {list sub : List (List Int)} (hs : xcK list) (h : ∀ g ∈ sub, g ∈ list) : ∀ e ∈ sub, lft e ∈ byF 0 list ∧ ∀ b, rt e = some b → b ∈ uB := fun e he => by
 refine ⟨(xvO _ _).2 ⟨e, h e he, rfl⟩, fun b hb => ?_⟩
 unfold rt at hb
 split at hb
 ·cases hb
 ·cases hb
  exact (xx9 _).2 (hs e (h e he))
def aOf (m : Nat) (list : List (List Int)) (x : List Int) : Bool := decide (∃ g ∈ list, cov m g = false ∧ x = lft g)
def bOf (m : Nat) (k : Int) : Bool := m.testBit k.toNat
theorem xz4 (m : Nat) (list : List (List Int)) : ∀ e ∈ list, Cov lft rt (aOf m list) (bOf m) e := fun e he => by
 cases hc : cov m e with
 | false => exact .inl (decide_eq_true ⟨e, he, hc, rfl⟩)
 | true =>
  unfold cov at hc
  rw [Bool.and_eq_true] at hc
  refine .inr ⟨col e 0, ?_, hc.2⟩
  unfold rt
  rw [if_neg (by simpa using hc.1)]
theorem xvS (m : Nat) (list : List (List Int)) : size (byF 0 list) uB (aOf m list) (bOf m) = (byF m list).length := by
 have hr : (((List.range 9).filter m.testBit).map rOn).Nodup := by
  rw [List.nodup_iff_pairwise_ne, List.pairwise_map]
  refine ((List.nodup_iff_pairwise_ne.1 List.nodup_range).filter m.testBit).imp fun {a b} h e => h ?_
  have e1 : ((a : Nat) : Int) = (b : Int) := by
   unfold rOn at e
   simpa using e
  omega
 have h1 : (byF m list).length = ((byF 0 list).filter (aOf m list) ++ ((List.range 9).filter m.testBit).map rOn).length := by
  refine xr9 (xj2 m list) (List.nodup_append.2 ⟨(xj2 0 list).filter _, hr, fun a ha b hb e => ?_⟩) fun x => ?_
  ·obtain ⟨g, _, e1⟩ := (xvO _ _).1 (List.mem_filter.1 ha).1
   obtain ⟨k, _, e2⟩ := List.mem_map.1 hb
   exact xyl g k (by rw [← e1, e, e2])
  ·rw [xiI, List.mem_append, List.mem_filter, List.mem_map]
   constructor
   ·rintro (⟨k, h1, h2, h3⟩ | ⟨g, h1, h2, h3⟩)
    ·exact .inr ⟨k, List.mem_filter.2 ⟨List.mem_range.2 h1, h2⟩, h3.symm⟩
    ·exact .inl ⟨(xvO _ _).2 ⟨g, h1, h3⟩, decide_eq_true ⟨g, h1, h2, h3⟩⟩
   ·rintro (⟨_, h⟩ | ⟨k, h1, h2⟩)
    ·obtain ⟨g, h1, h2, h3⟩ := of_decide_eq_true h
     exact .inr ⟨g, h1, h2, h3⟩
    ·obtain ⟨h3, h4⟩ := List.mem_filter.1 h1
     exact .inl ⟨k, List.mem_range.1 h3, h4, h2.symm⟩
 have h2 : uB.countP (bOf m) = ((List.range 9).filter m.testBit).length := by
  have e : uB = (List.range 9).map (fun k : Nat => (k : Int)) := by decide
  rw [e, List.countP_map, ← List.countP_eq_length_filter]
  exact List.countP_congr fun (k : Nat) _ => by show m.testBit (k : Int).toNat = true ↔ _; rw [Int.toNat_natCast]
 unfold size
 rw [h1, h2, List.length_append, List.length_map, List.countP_eq_length_filter]
def mask : List Bool → Nat
 | [] => 0
 | b :: r => b.toNat + 2 * mask r
theorem xur : ∀ (l : List Bool) (k : Nat), (mask l).testBit k = l.getD k false
 | [], k => by simp [mask]
 | b :: r, 0 => by
  unfold mask
  cases b <;> simp [Nat.testBit_zero]
 | b :: r, k + 1 => by
  have ih := xur r k
  unfold mask
  rw [Nat.testBit_succ]
  have : (b.toNat + 2 * mask r) / 2 = mask r := by cases b <;> simp <;> omega
  rw [this, ih]; rfl
theorem xwt : ∀ (l : List Bool), mask l < 2 ^ l.length
 | [] => by simp [mask]
 | b :: r => by
  have := xwt r
  unfold mask
  rw [List.length_cons, Nat.pow_succ]
  cases b <;> simp <;> omega
theorem xuK {list : List (List Int)} (hs : xcK list) {A : List Int → Bool} {B : Int → Bool} (hc : ∀ e ∈ list, Cov lft rt A B e) : (fewF list).length ≤ size (byF 0 list) uB A B := by
 let m := mask ((List.range 9).map fun k : Nat => B (k : Int))
 have hm : m < 512 := by
  have := xwt ((List.range 9).map fun k : Nat => B (k : Int))
  simpa using this
 have hbit : ∀ k, k < 9 → m.testBit k = B (k : Int) := fun k hk => by
  show (mask _).testBit k = _
  rw [xur, List.getD_eq_getElem?_getD, List.getElem?_map, List.getElem?_range hk]
  rfl
 refine Nat.le_trans (xzm hs hm) ?_
 rw [← xvS m list]
 have h1 : (byF 0 list).countP (aOf m list) ≤ (byF 0 list).countP A := by
  refine xiF (fun x hx => ?_) _
  obtain ⟨g, hg, hcv, rfl⟩ := of_decide_eq_true hx
  rcases hc g hg with h | ⟨b, hb, hB⟩
  ·exact h
  ·exfalso
   unfold rt at hb
   split at hb
   ·cases hb
   ·rename_i h3
    cases hb
    have hsh := hs g hg
    unfold cov at hcv
    rw [hbit _ (by omega), Int.toNat_of_nonneg hsh.1, hB] at hcv
    simp at hcv
    exact h3 hcv
 have h2 : uB.countP (bOf m) ≤ uB.countP B := by
  have : ∀ l : List Int, (∀ k ∈ l, 0 ≤ k ∧ k ≤ 8) → l.countP (bOf m) ≤ l.countP B := fun l hl => by
   refine Nat.le_of_eq (List.countP_congr fun k hk => ?_)
   have := hl k hk
   unfold bOf
   rw [hbit _ (by omega), Int.toNat_of_nonneg this.1]
  exact this uB fun k hk => (xx9 k).1 hk
 unfold size
 omega
theorem xoe {list M : List (List Int)} (hs : xcK list) (hsub : ∀ g ∈ M, g ∈ list) (hM : M.Pairwise (xpC lft rt)) : M.length ≤ (fewF list).length := by
 obtain ⟨m, hm, he⟩ := (xlV hs).1
 rw [he, ← xvS m list]
 exact weak hM (fun e hh => xz4 m list e (hsub e hh)) (xxa hs hsub)
theorem xuT {list : List (List Int)} (hs : xcK list) : ∃ M : List (List Int), M.Sublist list ∧ M.Pairwise (xpC lft rt) ∧ M.length = (fewF list).length := by
 obtain ⟨M, h1, h2, A, B, h3, h4⟩ := xym (l := lft) (r := rt) (xj2 0 list) xt8 list.length list (Nat.le_refl _) (xxa hs fun g h => h)
 refine ⟨M, h1, h2, Nat.le_antisymm (xoe hs (fun g hg => h1.subset hg) h2) ?_⟩
 rw [← h4]
 exact xuK hs h3
end Go.Proofs.YtikhnofbbcmpeaaGreat
set_option linter.unusedVariables false
set_option maxRecDepth 100000
namespace Go.Proofs.YtikhnofbbcmpeaaGreat
open Go Go.Sy Go.Koen
def xl9 (gs : List (List Int)) : Prop := gs.Pairwise fun a b => ltK (kOf a) (kOf b)
theorem xoP {a b : Key} (h : ltK a b) : a ≠ b := fun e => by subst e; unfold ltK at h; omega
theorem xjw (g h : List Int) : (col g 0 == col h 0 && (col g 1 == col h 1 && true)) = decide (kOf g = kOf h) := by
 by_cases e : kOf g = kOf h
 ·obtain ⟨h1, h2⟩ := Prod.mk.inj e
  rw [decide_eq_true e, h1, h2]; simp
 ·rw [decide_eq_false e]
  cases hb : (col g 0 == col h 0 && (col g 1 == col h 1 && true)) with
  | false => rfl
  | true =>
   simp only [Bool.and_eq_true, beq_iff_eq] at hb
   exact absurd (Prod.ext hb.1 hb.2.1) e
theorem xzJ {g h : List Int} (he : lft g = lft h) : (col g 2 ≠ 0 ∧ col h 2 ≠ 0 ∧ col g 1 = col h 1) ∨ (col g 2 = 0 ∧ col h 2 = 0 ∧ kOf g = kOf h) := by
 unfold lft at he
 by_cases h1 : col g 2 = 0 <;> by_cases h2 : col h 2 = 0
 ·rw [if_pos h1, if_pos h2] at he
  right
  simp only [List.cons.injEq, and_true, true_and] at he
  exact ⟨h1, h2, Prod.ext he.1 he.2⟩
 ·rw [if_pos h1, if_neg h2] at he
  simp at he
 ·rw [if_neg h1, if_pos h2] at he
  simp at he
 ·rw [if_neg h1, if_neg h2] at he
  left
  simp only [List.cons.injEq, and_true, true_and] at he
  exact ⟨h1, h2, he⟩
theorem xsY {g h : List Int} (ha : apF g h = true) : xpC lft rt g h := by
 unfold apF at ha
 rw [xjw] at ha
 simp only [Bool.and_eq_true, Bool.not_eq_true'] at ha
 obtain ⟨⟨h1, h2⟩, h3⟩ := ha
 have h1 := of_decide_eq_false h1
 refine ⟨fun e => ?_, fun b hb hb' => ?_⟩
 ·rcases xzJ e with ⟨a1, a2, a3⟩ | ⟨_, _, a3⟩
  ·have e1 : (col g 2 != 0) = true := by simpa using a1
   have e2 : (col h 2 != 0) = true := by simpa using a2
   rw [e1, e2, a3] at h2
   simp at h2
  ·exact h1 a3
 ·unfold rt at hb hb'
  split at hb
  ·cases hb
  ·split at hb'
   ·cases hb'
   ·rename_i q1 q2
    cases hb
    have e1 : (col g 3 != 0) = true := by simpa using q1
    have e2 : (col h 3 != 0) = true := by simpa using q2
    have e3 : col h 0 = col g 0 := by injection hb'
    rw [e1, e2, e3] at h3
    simp at h3
theorem xxq {g h : List Int} (hk : kOf g ≠ kOf h) (ha : xpC lft rt g h) : apF g h = true := by
 obtain ⟨h1, h2⟩ := ha
 unfold apF
 rw [xjw, decide_eq_false hk]
 have e1 : ((col g 2 != 0) && (col h 2 != 0) && col g 1 == col h 1) = false := by
  cases hb : ((col g 2 != 0) && (col h 2 != 0) && col g 1 == col h 1) with
  | false => rfl
  | true =>
   simp only [Bool.and_eq_true, bne_iff_ne, ne_eq, beq_iff_eq] at hb
   exact absurd (by unfold lft; rw [if_neg hb.1.1, if_neg hb.1.2, hb.2]) h1
 have e2 : ((col g 3 != 0) && (col h 3 != 0) && col g 0 == col h 0) = false := by
  cases hb : ((col g 3 != 0) && (col h 3 != 0) && col g 0 == col h 0) with
  | false => rfl
  | true =>
   simp only [Bool.and_eq_true, bne_iff_ne, ne_eq, beq_iff_eq] at hb
   exact absurd (by unfold rt; rw [if_neg hb.1.2, hb.2]) (h2 (col g 0) (by unfold rt; rw [if_neg hb.1.1]))
 rw [e1, e2]; rfl
theorem xrG (g h : List Int) : apF g h = apF h g := by
 unfold apF
 rw [xjw, xjw]
 have c1 : decide (kOf g = kOf h) = decide (kOf h = kOf g) := decide_eq_decide.2 ⟨Eq.symm, Eq.symm⟩
 have c2 : (col g 1 == col h 1) = (col h 1 == col g 1) := by rw [Bool.eq_iff_iff, beq_iff_eq, beq_iff_eq]; exact ⟨Eq.symm, Eq.symm⟩
 have c3 : (col g 0 == col h 0) = (col h 0 == col g 0) := by rw [Bool.eq_iff_iff, beq_iff_eq, beq_iff_eq]; exact ⟨Eq.symm, Eq.symm⟩
 rw [c1, c2, c3, Bool.and_comm (col g 2 != 0), Bool.and_comm (col g 3 != 0)]
theorem xui : ∀ (k : Nat) (gs : List (List Int)), xcK gs → xl9 gs → (fewF gs).length < k → ∃ M : List (List Int), M.Sublist gs ∧ M.Pairwise (fun a b => apF a b = true) ∧ M.length = (fewF gs).length ∧ prF k ((fewF gs).length : Nat) gs = xd3 M
 | 0, gs, _, _, h => by omega
 | k + 1, gs, hs, hu, hk => by
  generalize hn : (fewF gs).length = n at *
  by_cases h0 : n = 0
  ·subst h0
   exact ⟨[], List.nil_sublist _, List.Pairwise.nil, rfl, rfl⟩
  ·have hgo : ∀ (r : List (List Int)), xcK r → xl9 r → (∃ M : List (List Int), M.Sublist r ∧ M.Pairwise (xpC lft rt) ∧ M.length = n) → (∀ M : List (List Int), M.Sublist r → M.Pairwise (xpC lft rt) → M.length ≤ n) →
     ∃ M : List (List Int), M.Sublist r ∧ M.Pairwise (fun a b => apF a b = true) ∧ M.length = n ∧ goP (prF k) n r = xd3 M := by
    intro r
    induction r with
    | nil =>
     rintro _ _ ⟨M, h1, _, h3⟩ _
     have : M = [] := List.eq_nil_of_sublist_nil h1
     subst this
     exact absurd h3.symm h0
    | cons g r ih =>
     intro hsr hur ⟨M, h1, h2, h3⟩ hmax
     have hr : xcK r := fun x hx => hsr x (List.mem_cons_of_mem _ hx)
     obtain ⟨hu1, hu2⟩ := List.pairwise_cons.1 hur
     have hsubf : ∀ x ∈ r.filter (apF g), x ∈ r := fun x hx => (List.mem_filter.1 hx).1
     have hrf : xcK (r.filter (apF g)) := fun x hx => hr x (hsubf x hx)
     have huf : xl9 (r.filter (apF g)) := List.Pairwise.filter _ hu2
     unfold goP
     by_cases hc : ((fewF (r.filter (apF g))).length : Int) = n - 1
     ·rw [if_pos hc]
      obtain ⟨M', m1, m2, m3, m4⟩ := xui k (r.filter (apF g)) hrf huf (by omega)
      refine ⟨g :: M', (m1.trans (List.filter_sublist (p := apF g))).cons_cons g, List.pairwise_cons.2 ⟨fun x hx => (List.mem_filter.1 (m1.subset hx)).2, m2⟩, by rw [List.length_cons]; omega, ?_⟩
      rw [← hc]
      rw [m4]
      rfl
     ·rw [if_neg hc]
      have hin : ∃ M : List (List Int), M.Sublist r ∧ M.Pairwise (xpC lft rt) ∧ M.length = n := by
       cases h1 with
       | cons _ h1 => exact ⟨M, h1, h2, h3⟩
       | cons_cons _ h1 =>
        rename_i M0
        exfalso
        obtain ⟨q1, q2⟩ := List.pairwise_cons.1 h2
        have hM0 : ∀ x ∈ M0, x ∈ r.filter (apF g) := fun x hx => List.mem_filter.2 ⟨h1.subset hx, xxq (xoP (hu1 x (h1.subset hx))) (q1 x hx)⟩
        have l1 := xoe hrf hM0 q2
        obtain ⟨M1, a1, a2, a3⟩ := xuT hrf
        have l2 := hmax (g :: M1) ((a1.trans (List.filter_sublist (p := apF g))).cons_cons g) (List.pairwise_cons.2 ⟨fun x hx => xsY (List.mem_filter.1 (a1.subset hx)).2, a2⟩)
        rw [List.length_cons] at l2 h3
        omega
      obtain ⟨M', m1, m2, m3, m4⟩ := ih hr hu2 hin fun M hM hp => hmax M (hM.cons g) hp
      exact ⟨M', m1.cons g, m2, m3, m4⟩
   obtain ⟨M, e1, e2, e3⟩ := xuT hs
   have := hgo gs hs hu ⟨M, e1, e2, by rw [e3, hn]⟩ fun M hM hp => by rw [← hn]; exact xoe hs (fun g hg => hM.subset hg) hp
   obtain ⟨M', m1, m2, m3, m4⟩ := this
   refine ⟨M', m1, m2, m3, ?_⟩
   show (if (n : Int) = 0 then [] else goP (prF k) n gs) = _
   rw [if_neg (by omega)]
   exact m4
theorem xoi {om pr : List (List Int)} : ∀ {gs named0 named : List (List Int)}, verL om pr named0 gs = some named → (∀ g ∈ gs, om.any (canF g) = true) ∧ (named0.Pairwise (fun a b => apF a b = true) → named.Pairwise fun a b => apF a b = true) ∧ ∃ M, named = named0 ++ M ∧ M.Sublist gs
 | [], named0, named, h => by
  cases h
  exact ⟨(fun g hg => by cases hg), id, [], by simp, List.Sublist.refl _⟩
 | g :: r, named0, named, h => by
  unfold verL at h
  split at h
  ·rename_i h1
   split at h
   ·split at h
    ·cases h
    ·rename_i h3
     obtain ⟨a1, a2, M, a3, a4⟩ := xoi h
     refine ⟨fun x hx => ?_, fun hp => a2 (List.pairwise_append.2 ⟨hp, List.pairwise_singleton _ _, fun a ha b hb => ?_⟩), g :: M, by rw [a3]; simp, a4.cons_cons g⟩
     ·rcases List.mem_cons.1 hx with rfl | hx
      ·exact h1
      ·exact a1 x hx
     ·rw [List.mem_singleton.1 hb]
      rw [xrG]
      cases hx : apF g a with
      | true => rfl
      | false => exact absurd (List.any_eq_true.2 ⟨a, ha, by rw [hx]; rfl⟩) h3
   ·obtain ⟨a1, a2, M, a3, a4⟩ := xoi h
    refine ⟨fun x hx => ?_, a2, M, a3, a4.cons g⟩
    rcases List.mem_cons.1 hx with rfl | hx
    ·exact h1
    ·exact a1 x hx
  ·cases h
def imA (gs : List (List Int)) (o : List Int) : Option (List Int) := if col o 0 = 1 then some [1, 0, col o 2] else if col o 0 = 3 then (gs.find? fun g => decide (kOf g = (col o 1, col o 2))).map lft else none
def imB (o : List Int) : Option Int := if col o 0 = 2 then some (col o 1) else none
theorem xyr (gs : List (List Int)) : ∀ om : List (List Int), (om.filterMap (imA gs)).length + (om.filterMap imB).length ≤ om.length
 | [] => Nat.le_refl _
 | o :: r => by
  have ih := xyr gs r
  rw [List.filterMap_cons, List.filterMap_cons, List.length_cons]
  unfold imA imB
  by_cases h1 : col o 0 = 1
  ·rw [if_pos h1, if_neg (by omega)]
   simp only [List.length_cons]
   unfold imA imB at ih
   omega
  ·rw [if_neg h1]
   by_cases h2 : col o 0 = 2
   ·rw [if_neg (by omega), if_pos h2]
    simp only [List.length_cons]
    unfold imA imB at ih
    omega
   ·rw [if_neg h2]
    unfold imA imB at ih
    by_cases h3 : col o 0 = 3
    ·rw [if_pos h3]
     cases (gs.find? fun g => decide (kOf g = (col o 1, col o 2))).map lft with
     | none => show (List.filterMap _ r).length + (List.filterMap _ r).length ≤ _; omega
     | some z => show (z :: List.filterMap _ r).length + (List.filterMap _ r).length ≤ _; rw [List.length_cons]; omega
    ·rw [if_neg h3]
     show (List.filterMap _ r).length + (List.filterMap _ r).length ≤ _
     omega
theorem xuL {α : Type} [DecidableEq α] {U L : List α} {p : α → Bool} (h : U.Nodup) (hp : ∀ x, p x = true → x ∈ L) : U.countP p ≤ L.length := by
 rw [List.countP_eq_length_filter]
 exact xe8 (h.filter _) fun x hx => hp x (List.mem_filter.1 hx).2
theorem xzp {gs om : List (List Int)} (hs : xcK gs) (hu : xl9 gs) (h : ∀ g ∈ gs, ∃ o ∈ om, canF g o = true) : (fewF gs).length ≤ om.length := by
 have hc : ∀ e ∈ gs, Cov lft rt (fun x => decide (x ∈ om.filterMap (imA gs))) (fun b => decide (b ∈ om.filterMap imB)) e := by
  intro g hg
  obtain ⟨o, ho, hcan⟩ := h g hg
  unfold canF at hcan
  cases h1 : (col o 0 == 1 && (col o 1 == 0 && (col o 2 == col g 1 && true))) with
  | true =>
   rw [h1, cond_true] at hcan
   simp only [Bool.and_eq_true, beq_iff_eq] at h1
   refine .inl (decide_eq_true (List.mem_filterMap.2 ⟨o, ho, ?_⟩))
   unfold imA lft
   rw [if_pos h1.1, if_neg (by simpa using hcan), h1.2.2.1]
  | false =>
   rw [h1, cond_false] at hcan
   cases h2 : (col o 0 == 2 && (col o 1 == col g 0 && (col o 2 == 0 && true))) with
   | true =>
    rw [h2, cond_true] at hcan
    simp only [Bool.and_eq_true, beq_iff_eq] at h2
    refine .inr ⟨col g 0, ?_, decide_eq_true (List.mem_filterMap.2 ⟨o, ho, ?_⟩)⟩
    ·unfold rt
     rw [if_neg (by simpa using hcan)]
    ·unfold imB
     rw [if_pos h2.1, h2.2.1]
   | false =>
    rw [h2, cond_false] at hcan
    simp only [Bool.and_eq_true, beq_iff_eq] at hcan
    refine .inl (decide_eq_true (List.mem_filterMap.2 ⟨o, ho, ?_⟩))
    unfold imA
    rw [if_neg (by omega), if_pos hcan.1]
    have hkey : kOf g = (col o 1, col o 2) := Prod.ext hcan.2.1.symm hcan.2.2.1.symm
    cases hf : gs.find? fun g => decide (kOf g = (col o 1, col o 2)) with
    | none =>
     have := List.find?_eq_none.1 hf g hg
     exact absurd (decide_eq_true hkey) this
    | some g' =>
     have hk' : kOf g' = (col o 1, col o 2) := of_decide_eq_true (List.find?_some (p := fun g => decide (kOf g = (col o 1, col o 2))) hf)
     have hm := List.mem_of_find?_eq_some hf
     have : g' = g := by
      obtain ⟨i, hi⟩ := List.mem_iff_getElem?.1 hm
      obtain ⟨j, hj⟩ := List.mem_iff_getElem?.1 hg
      obtain ⟨hi1, hi2⟩ := List.getElem?_eq_some_iff.1 hi
      obtain ⟨hj1, hj2⟩ := List.getElem?_eq_some_iff.1 hj
      have hp := List.pairwise_iff_getElem.1 hu
      rcases Nat.lt_trichotomy i j with hlt | hlt | hlt
      ·have := xoP (hp i j hi1 hj1 hlt)
       rw [hi2, hj2, hk', hkey] at this
       exact absurd rfl this
      ·subst hlt; rw [← hi2, ← hj2]
      ·have := xoP (hp j i hj1 hi1 hlt)
       rw [hi2, hj2, hk', hkey] at this
       exact absurd rfl this
     rw [this]; rfl
 have h0 := xuK hs hc
 unfold size at h0
 have h1 := xuL (U := byF 0 gs) (L := om.filterMap (imA gs)) (p := fun x => decide (x ∈ om.filterMap (imA gs))) (xj2 0 gs) fun x hx => of_decide_eq_true hx
 have h2 := xuL (U := uB) (L := om.filterMap imB) (p := fun b => decide (b ∈ om.filterMap imB)) xt8 fun x hx => of_decide_eq_true hx
 have h3 := xyr gs om
 exact Nat.le_trans h0 (Nat.le_trans (Nat.add_le_add h1 h2) h3)
theorem xxW {gs : List (List Int)} (hs : xcK gs) : ∀ g ∈ gs, ∃ o ∈ fewF gs, canF g o = true := by
 intro g hg
 obtain ⟨m, hm, he⟩ := (xlV hs).1
 rw [he]
 have hsh := hs g hg
 cases hc : cov m g with
 | true =>
  unfold cov at hc
  rw [Bool.and_eq_true] at hc
  refine ⟨rOn (col g 0).toNat, (xiI _ _ _).2 (.inl ⟨_, by omega, hc.2, rfl⟩), ?_⟩
  unfold canF
  have e : col (rOn (col g 0).toNat) 1 = col g 0 := Int.toNat_of_nonneg hsh.1
  rw [e]
  show (bif (2 == (1 : Int)) && _ then _ else bif (2 : Int) == 2 && (col g 0 == col g 0 && ((0 : Int) == 0 && true)) then col g 3 != 0 else _) = true
  simp only [beq_self_eq_true, Bool.and_self, cond_true]
  exact hc.1
 | false =>
  refine ⟨lft g, (xiI _ _ _).2 (.inr ⟨g, hg, hc, rfl⟩), ?_⟩
  unfold canF lft
  by_cases h2 : col g 2 = 0
  ·rw [if_pos h2]
   show (bif (3 == (1 : Int)) && _ then _ else bif (3 : Int) == 2 && _ then _ else (3 : Int) == 3 && (col g 0 == col g 0 && (col g 1 == col g 1 && true))) = true
   simp
  ·rw [if_neg h2]
   show (bif (1 : Int) == 1 && ((0 : Int) == 0 && (col g 1 == col g 1 && true)) then col g 2 != 0 else _) = true
   simpa using h2
theorem xyJ {gs om pr : List (List Int)} (hs : xcK gs) (hu : xl9 gs) (h : verF gs om pr = true) : om.length = (fewF gs).length ∧ pr.length = (fewF gs).length := by
 unfold verF at h
 simp only [Bool.and_eq_true, beq_iff_eq] at h
 obtain ⟨⟨⟨h1, _⟩, _⟩, h4⟩ := h
 cases hv : verL om pr [] gs with
 | none => rw [hv] at h4; cases h4
 | some named =>
  rw [hv] at h4
  have h4 : named.length = pr.length := by simpa using h4
  obtain ⟨a1, a2, M, a3, a4⟩ := xoi hv
  have hM : named = M := by simpa using a3
  subst hM
  have l1 := xoe hs (fun g hg => a4.subset hg) ((a2 List.Pairwise.nil).imp fun h => xsY h)
  have l2 := xzp (om := om) hs hu fun g hg => by
   obtain ⟨o, ho, hc⟩ := List.any_eq_true.1 (a1 g hg)
   exact ⟨o, ho, hc⟩
  omega
theorem xnc {α : Type} {R : α → α → Prop} {l : List α} (h : l.Pairwise R) {i : Nat} (hi : i + 1 < l.length) : R l[i] l[i + 1] := List.pairwise_iff_getElem.1 h i (i + 1) (by omega) hi (by omega)
theorem xyI {gs : List (List Int)} (hs : xcK gs) (hu : xl9 gs) {k : Nat} (hk : (fewF gs).length < k) : verF gs (fewF gs) (prF k ((fewF gs).length : Nat) gs) = true ∧ (prF k ((fewF gs).length : Nat) gs).length = (fewF gs).length := by
 obtain ⟨M, m1, m2, m3, m4⟩ := xui k gs hs hu hk
 rw [m4]
 have hl : (xd3 M).length = M.length := by simp [xd3]
 refine ⟨?_, by rw [hl, m3]⟩
 obtain ⟨m, hm, he⟩ := (xlV hs).1
 have r1 : xij cfO (fewF gs) = true := (xjh _ _).2 fun i hi => by
  have hp := (xrD m gs).1
  rw [← he] at hp
  exact (xuP _ _).2 (xnc hp hi)
 have huM : xl9 M := List.Pairwise.sublist m1 hu
 have r2 : xij cfG (xd3 M) = true := (xjh _ _).2 fun i hi => by
  have hi' : i + 1 < M.length := by rw [← hl]; exact hi
  have := xnc huM hi'
  have e : ∀ j (hj : j < (xd3 M).length) (hj' : j < M.length), (xd3 M)[j] = [col M[j] 0, col M[j] 1] := fun j hj hj' => by simp [xd3]
  rw [e i (by omega) (by omega), e (i + 1) hi hi']
  rw [xyB]
  unfold cmp2
  unfold ltK kOf at this
  show (if col M[i] 0 < col M[i + 1] 0 then (-1 : Int) else if col M[i + 1] 0 < col M[i] 0 then 1 else if col M[i] 1 < col M[i + 1] 1 then -1 else if col M[i + 1] 1 < col M[i] 1 then 1 else 0) < 0
  have this : col M[i] 0 < col M[i + 1] 0 ∨ (col M[i] 0 = col M[i + 1] 0 ∧ col M[i] 1 < col M[i + 1] 1) := this
  rcases this with h | ⟨h, h'⟩
  ·rw [if_pos h]; decide
  ·rw [if_neg (by omega), if_neg (by omega), if_pos h']; decide
 have hall : ∀ g ∈ gs, (fewF gs).any (canF g) = true := fun g hg => by
  obtain ⟨o, ho, hc⟩ := xxW hs g hg
  exact List.any_eq_true.2 ⟨o, ho, hc⟩
 have hkey : ∀ g ∈ gs, ((xd3 M).any (keyB g) = true ↔ g ∈ M) := fun g hg => by
  rw [List.any_eq_true]
  constructor
  ·rintro ⟨p, hp, hk'⟩
   obtain ⟨x, hx, rfl⟩ := List.mem_map.1 hp
   have e : kOf g = kOf x := by
    unfold keyB at hk'
    have h2 : (col g 0 == col x 0 && (col g 1 == col x 1 && true)) = true := hk'
    rw [xjw] at h2
    exact of_decide_eq_true h2
   have hxg := m1.subset hx
   obtain ⟨i, hi⟩ := List.mem_iff_getElem?.1 hxg
   obtain ⟨j, hj⟩ := List.mem_iff_getElem?.1 hg
   obtain ⟨hi1, hi2⟩ := List.getElem?_eq_some_iff.1 hi
   obtain ⟨hj1, hj2⟩ := List.getElem?_eq_some_iff.1 hj
   have hp := List.pairwise_iff_getElem.1 hu
   rcases Nat.lt_trichotomy i j with hlt | hlt | hlt
   ·have := xoP (hp i j hi1 hj1 hlt)
    rw [hi2, hj2, e] at this
    exact absurd rfl this
   ·subst hlt
    rw [show g = x by rw [← hi2, ← hj2]]; exact hx
   ·have := xoP (hp j i hj1 hi1 hlt)
    rw [hi2, hj2, e] at this
    exact absurd rfl this
  ·intro hg'
   refine ⟨[col g 0, col g 1], List.mem_map.2 ⟨g, hg', rfl⟩, ?_⟩
   show (col g 0 == col g 0 && (col g 1 == col g 1 && true)) = true
   simp
 have hrun : ∀ (r done : List (List Int)), (∀ g ∈ r, g ∈ gs) → (∀ g ∈ r, ∀ h ∈ done, g ∈ M → apF g h = true) → r.Pairwise (fun a b => a ∈ M → b ∈ M → apF a b = true) →
   verL (fewF gs) (xd3 M) done r = some (done ++ r.filter fun g => decide (g ∈ M)) := by
  intro r
  induction r with
  | nil => intro done _ _ _; simp [verL]
  | cons g r ih =>
   intro done hr hd hp
   obtain ⟨p1, p2⟩ := List.pairwise_cons.1 hp
   have hgm := hr g List.mem_cons_self
   unfold verL
   rw [if_pos (hall g hgm)]
   by_cases hin : g ∈ M
   ·rw [if_pos ((hkey g hgm).2 hin)]
    have hno : ¬ (done.any fun h => !apF g h) = true := by
     rw [List.any_eq_true]
     rintro ⟨h, hh, hh'⟩
     rw [hd g List.mem_cons_self h hh hin] at hh'
     cases hh'
    rw [if_neg hno, ih (done ++ [g]) (fun x hx => hr x (List.mem_cons_of_mem _ hx)) (fun x hx h hh hxM => ?_) p2, List.filter_cons_of_pos (by simpa using hin), List.append_assoc]
    ·rfl
    ·rcases List.mem_append.1 hh with hh | hh
     ·exact hd x (List.mem_cons_of_mem _ hx) h hh hxM
     ·rw [List.mem_singleton.1 hh, xrG]
      exact p1 x hx hin hxM
   ·rw [if_neg (fun h => hin ((hkey g hgm).1 h)), ih done (fun x hx => hr x (List.mem_cons_of_mem _ hx)) (fun x hx h hh => hd x (List.mem_cons_of_mem _ hx) h hh) p2, List.filter_cons_of_neg (by simpa using hin)]
 have hfil : gs.filter (fun g => decide (g ∈ M)) = M := by
  have hnd : gs.Pairwise (· ≠ ·) := hu.imp fun {a b} h (e : a = b) => xoP h (congrArg kOf e)
  clear hrun hkey hall r1 r2 m2 m3 m4 hl huM he hm hk hu hs
  induction m1 with
  | slnil => rfl
  | cons a h ih =>
   rename_i l1 l2
   obtain ⟨q1, q2⟩ := List.pairwise_cons.1 hnd
   rw [List.filter_cons_of_neg (by simpa using fun hm => q1 a (h.subset hm) rfl)]
   exact ih q2
  | cons_cons a h ih =>
   rename_i l1 l2
   obtain ⟨q1, q2⟩ := List.pairwise_cons.1 hnd
   rw [List.filter_cons_of_pos (by simp)]
   congr 1
   rw [← ih q2]
   refine List.filter_congr fun x hx => decide_eq_decide.2 ?_
   rw [ih q2, List.mem_cons]
   exact ⟨fun hx' => hx'.resolve_left fun e => q1 x hx e.symm, .inr⟩
 have hpw : gs.Pairwise fun a b => a ∈ M → b ∈ M → apF a b = true := by
  have hsym : ∀ a ∈ M, ∀ b ∈ M, a ≠ b → apF a b = true := by
   intro a ha b hb hne
   obtain ⟨i, hi⟩ := List.mem_iff_getElem?.1 ha
   obtain ⟨j, hj⟩ := List.mem_iff_getElem?.1 hb
   obtain ⟨hi1, hi2⟩ := List.getElem?_eq_some_iff.1 hi
   obtain ⟨hj1, hj2⟩ := List.getElem?_eq_some_iff.1 hj
   have hp := List.pairwise_iff_getElem.1 m2
   rcases Nat.lt_trichotomy i j with hlt | hlt | hlt
   ·have := hp i j hi1 hj1 hlt
    rwa [hi2, hj2] at this
   ·subst hlt
    exact absurd (by rw [← hi2, ← hj2]) hne
   ·have := hp j i hj1 hi1 hlt
    rw [hi2, hj2] at this
    rw [xrG]; exact this
  exact hu.imp fun {a b} h ha hb => hsym a ha b hb fun (e : a = b) => xoP h (congrArg kOf e)
 unfold verF
 rw [hrun gs [] (fun g h => h) (fun g _ h hh => by cases hh) hpw, r1, r2, List.nil_append, hfil]
 simp [xd3, m3]
theorem xzg (office : List (List Int)) (logs : List ALog) (tm dl : Int) (list : List (List Int)) : xl9 (xd2 office logs tm dl list) := by
 obtain ⟨ks, h1, _, h3⟩ := xqk office logs tm dl list
 rw [h3]
 unfold xl9
 rw [List.pairwise_map]
 exact h1
end Go.Proofs.YtikhnofbbcmpeaaGreat
set_option linter.unusedVariables false
set_option maxRecDepth 100000
namespace Go.Proofs.YtikhnofbbcmpeaaGreat
open Go Go.Sy
theorem xAP (o : Int) (office ships chances : List (List Int)) (hs : ships.length ≤ 9223372036854775807) : xe3 o office ships chances ∧ (xd8 o office ships chances = true → (chances.length ≤ 16 ∨ 200 < chances.length)) := by
 have hloop : xaH (xcU o office ships chances) (xfB o office ships chances) := by
  refine (xfG (step := xcU o office ships chances) ships.length (fun i => decide (((decL (col (ships.getD i []) 1)).length : Int) > 40) && decide (((decL (col (ships.getD i []) 1)).length : Int) ≤ 200)) (fun i => [.b false, .i i]) (fun i => []) 0 3 [.b false, .i ships.length] (fun i hi => ?_) ?_).1
  ·have hr := xa0 hi
   unfold xcU
   simp only [gi_1, gi_z, gb_z]
   rw [dlt hi, xaa hr, xaa hr, xaa hr, xaa (fun _ => hr), xaa (fun _ => hr), xaa hr, xeo (by omega), Int.toNat_natCast]
   show (bif decide (((decL (col (ships.getD i []) 1)).length : Int) > 40) == true then (bif decide (((decL (col (ships.getD i []) 1)).length : Int) ≤ 200) then _ else _) else _) = _
   cases decide (((decL (col (ships.getD i []) 1)).length : Int) > 40) <;> cases decide (((decL (col (ships.getD i []) 1)).length : Int) ≤ 200) <;> rfl
  ·unfold xcU
   simp only [gi_1, gi_z, gb_z, dnlt]
 refine ⟨fun _ => hloop, fun h => ?_⟩
 unfold xd8 at h
 by_cases h1 : chances.length ≤ 16
 ·exact .inl h1
 ·by_cases h2 : 200 < chances.length
  ·exact .inr h2
  ·have e1 : decide ((chances.length : Int) > 16) = true := decide_eq_true (by omega)
   have e2 : decide ((chances.length : Int) ≤ 200) = true := decide_eq_true (by omega)
   rw [e1, e2] at h
   cases h
end Go.Proofs.YtikhnofbbcmpeaaGreat
set_option linter.unusedVariables false
namespace Go.Proofs.YtikhnofbbcmpeaaGreat
open Go Go.Sy
theorem xvc {W : World} {own : Bool} {e : TypeId} {sz : Nat} {v : Value} {m : Nat} {vs : List Value} (h : xaT W own e sz v m vs) : m ≤ 9223372036854775807 := by
 obtain ⟨a, c, _, h1, h2⟩ := h.reads.is
 unfold maxLen at h2
 omega
theorem xya {W : World} {own : Bool} {e : TypeId} {sz : Nat} {v : Value} {m : Nat} {vs : List Value} (h : xaT W own e sz v m vs) : v.oneCell' = true := by
 obtain ⟨a, c, rfl, _⟩ := h.reads.is
 rfl
theorem xxJ {W : World} {e : TypeId} {ks : List CK} {v : Value} {l : List (List Int)} (r : xaT W false e ks.length v l.length (rowV ks l)) (k : Nat) : v.oneCell' = true ∧ xaX (.row e ks l) = true ∧ ∀ (E : Env), E k = v → xaU E W k false (.row e ks l) :=
 ⟨xya r, rfl, fun E he => by
  show xaT W false e ks.length (E k) l.length (rowV ks l)
  rw [he]; exact r⟩
theorem xAS {W : World} {e : TypeId} {ks : List NK} {v : Value} {l : List (List Int)} {vs : List Value} (r : xft W false e ks v l vs) (k : Nat) : v.oneCell' = true ∧ xaX (.nst e ks l) = true ∧ ∀ (E : Env), E k = v → xaU E W k false (.nst e ks l) :=
 ⟨xya r.row, rfl, fun E he => by
  show ∃ vs, xft W false e ks (E k) l vs
  rw [he]; exact ⟨vs, r⟩⟩
theorem xzK {W : World} {e e' : TypeId} {k0 : NK} {ks : List CK} {v : Value} {l : List (List Int)} {vs : List Value} (r : xft W false e [k0, .s e' ks] v l vs) : ∀ x ∈ l, (decL (x.getD 1 0)).length ≤ 9223372036854775807 := by
 intro x hx
 obtain ⟨i, hi, rfl⟩ := List.getElem_of_mem hx
 obtain ⟨u, _, hu⟩ := r.cell i 1 _ hi rfl
 have e1 : l.getD i [] = l[i] := by rw [List.getD_eq_getElem?_getD, List.getElem?_eq_getElem hi]; rfl
 rw [e1] at hu
 exact xvc hu.2
end Go.Proofs.YtikhnofbbcmpeaaGreat
set_option linter.unusedVariables false
set_option maxRecDepth 100000
namespace Go.Proofs.YtikhnofbbcmpeaaGreat
open Go Go.Sy
theorem xzq {ow t delay : Int} {office list : List (List Int)} {logs : List ALog} (h : xja ow t delay office logs list = true) : chF list = true := by
 unfold xja at h
 simp only [Bool.and_eq_true] at h
 exact h.1.1.1.1.1.2
theorem xsE {office list : List (List Int)} {logs : List ALog} {t delay : Int} (hch : chF list = true) (hl : list.length ≤ 90) : (fewF (xd2 office logs t delay list)).length < 100 := by
 have h0 := xo7 (xd2 office logs t delay list)
 have h1 := xiJ 0 (xd2 office logs t delay list)
 have h2 := (xlQ (office := office) (logs := logs) (tm := t) (dl := delay) hch).2.2
 omega
theorem xv8 (ow t delay : Int) (office ships chances om pr : List (List Int)) (h1 : office.length ≤ 9223372036854775807) (h2 : ships.length ≤ 9223372036854775807) (h3 : chances.length ≤ 9223372036854775807) (h4 : om.length ≤ 9223372036854775807) (h5 : pr.length ≤ 9223372036854775807) (hd : xt5 ships) :
  xcv ow t delay office ships chances om pr = true ∧ xbu ow t delay office ships chances om pr := by
 obtain ⟨f1, f2⟩ := xAP ow office ships chances h2
 unfold xcv xbu
 rw [xwH]
 cases hg : (!xd8 ow office ships chances || decide ((om.length : Int) > 100) || decide ((pr.length : Int) > 100)) with
 | true => exact ⟨rfl, xrh, f1, fun h => by cases h⟩
 | false =>
  have hfew : xd8 ow office ships chances = true := by
   simp only [Bool.or_eq_false_iff, Bool.not_eq_false'] at hg
   exact hg.1.1
  obtain ⟨e1, e2, e3, e4⟩ := xqB (ow := ow) (t := t) (delay := delay) h1 h2 h3 hd ((f2 hfew).imp (fun h => by omega) id)
  rw [cond_false, e4]
  cases hc : xja ow t delay office (xaF ships) chances with
  | false =>
   rw [if_neg (by decide)]
   exact ⟨rfl, xrh, f1, fun _ => ⟨e1, fun h => by cases h⟩⟩
  | true =>
   rw [hc, if_pos rfl] at e2 e3
   rw [if_pos rfl]
   have hch := xzq hc
   have hl90 : chances.length ≤ 90 := by
    have := (xqw hch).1
    rcases f2 hfew with h | h <;> omega
   obtain ⟨k1, k2, k3⟩ := xlQ (office := office) (logs := xaF ships) (tm := t) (dl := delay) hch
   have hup := xzg office (xaF ships) t delay chances
   obtain ⟨w1, w2⟩ := xyI k1 hup (xsE (office := office) (logs := xaF ships) (t := t) (delay := delay) hch hl90)
   have hE0 : (fewF (xd2 office (xaF ships) t delay chances)).length ≤ 9223372036854775807 := by
    have := xsE (office := office) (logs := xaF ships) (t := t) (delay := delay) hch hl90
    omega
   obtain ⟨v1, v2, v3⟩ := xpz (ow := ow) (t := t) (delay := delay) (om := fewF (xd2 office (xaF ships) t delay chances)) (pr := prF 100 ((fewF (xd2 office (xaF ships) t delay chances)).length : Nat) (xd2 office (xaF ships) t delay chances)) h1 h2 h3 hd hE0 (by rw [w2]; exact hE0)
   obtain ⟨u1, u2, u3⟩ := xpz (ow := ow) (t := t) (delay := delay) (om := om) (pr := pr) h1 h2 h3 hd h4 h5
   rw [hc] at v2 v3 u2 u3
   rw [e2, e3, v2, v3, u2, u3, if_pos rfl, w1, w2]
   refine ⟨?_, xrh, f1, fun _ => ⟨e1, fun _ => ⟨v1, u1⟩⟩⟩
   cases hvv : verF (xd2 office (xaF ships) t delay chances) om pr with
   | false => simp
   | true =>
    obtain ⟨l1, l2⟩ := xyJ k1 hup hvv
    rw [l1, l2]
    simp
end Go.Proofs.YtikhnofbbcmpeaaGreat
