/-
 The executor is sound: a region that draws its order, whole.
-/
import Derived.Test.YtnijhjpaplihbaaGreatSyU
import Derived.Still
set_option linter.unusedVariables false
namespace Go.Sy
open Go.RowKit
section
variable {P : Program} {Γ : Con} {call : xie} {N : Nat} {ops : Array Oper} {X : List (Nat × Go.Obj)} {w0 : World} {D : List Deferred} {H : Heap} {s : xaY} {L : List Item} {rnd : Option Nat} {E : Env}
def Away (it : Item) (k : Nat) : Prop := k < it.key ∨ it.key + it.x.nk ≤ k
theorem Run.clear (r : Run P Γ call N ops H s L) {S : Nat → Bool} (hS : xrB ops S) {j : Nat} {it : Item} (hj : L[j]? = some it) (hSj : S j = false) (hready : ∀ e ∈ it.o.after, Region.binds .any e = true → S e.on = true) :
  (∀ o ∈ xfS S 0 L H.objs, Away it o.key ∧ xbh (Away it) o.body) ∧ xiH (Away it) (xbJ S 0 L s) := by
 have hK := (r.keyF hj).1
 have other : ∀ k y, L[k]? = some y → S k = true → AV.all (Away it) y.x.v ∧ ∀ o ∈ y.x.add, Away it o.key ∧ xbh (Away it) o.body := by
  intro k y hy hSk
  have hf := r.fine hy
  have hne : j ≠ k := fun e => by rw [← e, hSj] at hSk; cases hSk
  by_cases hkj : k < j
  ·have hle := r.keyLt hy hj hkj
   refine ⟨xgk (fun x hx => .inl (by omega)) _ hf.val, fun o ho => ⟨.inl (by have := hf.addLt ho; omega), xoq (hf.noLoop o ho) (xlU (fun x hx => .inl (by omega)) _ (hf.below o ho))⟩⟩
  ·rcases xjS (r.pair j it k y hj hy hne) hne with h | h
   ·have := r.agree hS (r.back hj) hSj hready hy hne h
    rw [hSk] at this
    have : k < j := by simpa using this
    omega
   ·have far : ∀ x, x ∉ AV.keys y.x.v → True := fun _ _ => trivial
    have dec : ∀ x, ¬ Away it x → it.key ≤ x ∧ x < it.key + it.x.nk := fun x hx => by
     unfold Away at hx
     rw [not_or] at hx
     omega
    refine ⟨(xhp _).2 fun x hx => Classical.byContradiction fun hn => ?_, fun o ho => ⟨Classical.byContradiction fun hn => ?_, xoq (hf.noLoop o ho) ((xeg _).2 fun x hx => Classical.byContradiction fun hn => ?_)⟩⟩
    ·obtain ⟨h1, h2⟩ := dec x hn
     exact (h.names x h1 h2).1 hx
    ·obtain ⟨h1, h2⟩ := dec _ hn
     exact ((h.names _ h1 h2).2 o ho).1 rfl
    ·obtain ⟨h1, h2⟩ := dec x hn
     exact ((h.names x h1 h2).2 o ho).2 hx
 refine ⟨xsV L 0 S H.objs (fun o ho => ?_) (fun k y hy hSk o ho => (other k y hy (by simpa using hSk)).2 o ho), fun t => ?_⟩
 ·obtain ⟨a1, a2⟩ := r.hobjs o ho
  exact ⟨.inl (by omega), xa3 (fun x hx => .inl (by omega)) a2⟩
 ·rcases xkX (t := t) L 0 S s with h | ⟨k, y, h1, h2, h3, h4⟩
  ·rw [h]; exact xsl (fun x hx => .inl (by omega)) (r.hslots t)
  ·rw [h4]
   exact Item.slotAll (other k y h1 (by simpa using h2)).1
theorem xAD {it it0 : Item} (hs : Same it it0) {n K0 : Nat} {objs : List Obj} {E' : Env} {a : Act} {w : World} (h : xe7 n objs K0 it0.x ∧ Does rnd P E' objs K0 a w it0.o it0.x) : xe7 n objs K0 it.x ∧ Does rnd P E' objs K0 a w it.o it.x := by
 obtain ⟨hw, hd⟩ := h
 refine ⟨⟨by rw [hs.rm]; exact hw.rm, by rw [hs.add, hs.rm, hs.nk]; exact hw.key, by rw [hs.add]; exact hw.uniq, by rw [hs.add, hs.nk]; exact hw.all, ?_, by rw [hs.add]; exact hw.ver⟩, ?_⟩
 ·rcases hs.v with ⟨h1, _⟩ | ⟨b, v, h1, h2, _⟩
  ·rw [h1, hs.nk]; exact hw.val
  ·rw [h2]; trivial
 ·intro hp K Q hK
  have hp0 : it0.x.holds ∧ it.x.v.den = it0.x.v.den := by
   rcases hs.v with ⟨h1, h2⟩ | ⟨b, v, h1, h2, h3⟩
   ·unfold Eff.holds at hp ⊢
    rw [h2] at hp
    exact ⟨hp, by rw [h1]⟩
   ·unfold Eff.holds at hp ⊢
    rw [h3] at hp
    cases hq : it0.x.p with
    | none =>
     rw [hq] at hp
     have hb : b = v := hp
     exact ⟨trivial, by funext E; rw [h1, h2, hb]; rfl⟩
    | some q =>
     rw [hq] at hp
     have hb : q ∧ b = v := hp
     exact ⟨hb.1, by funext E; rw [h1, h2, hb.2]; rfl⟩
  rw [hs.o]
  refine hd hp0.1 K Q fun E2 w2 he => ?_
  have := hK E2 w2 ⟨by rw [hs.nk]; exact he.agree, he.env, by rw [hs.rm]; exact he.chg, by rw [hs.add]; exact he.bodies, by rw [hs.add, hs.rm]; exact he.own, by rw [hs.add, hs.rm]; exact he.ro, by rw [hs.add]; exact he.inj, by rw [hs.add, hs.rm]; exact he.dp, by rw [hs.add]; exact he.dq, by rw [hs.add, hs.rm]; exact he.df⟩
  rw [hs.o, show it.x.v.den E2 = it0.x.v.den E2 from congrFun hp0.2 E2] at this
  exact this
theorem Run.does (r : Run P Γ call N ops H s L) {S : Nat → Bool} (hS : xrB ops S) {j : Nat} {it : Item} (hj : L[j]? = some it) (hSj : S j = false) (hready : ∀ e ∈ it.o.after, Region.binds .any e = true → S e.on = true)
  {E' : Env} {a : Act} {w : World} (hSl : xaO E' (xif L H.next) N D (xbJ S 0 L s) a) (hH : xag X E' w0 ⟨xfS S 0 L H.objs, xif L H.next⟩ w)
  (hwant : xe8 it.ctx) : xe7 (xif L H.next) (xfS S 0 L H.objs) it.key it.x ∧ Does rnd P E' (xfS S 0 L H.objs) it.key a w it.o it.x := by
 classical
 obtain ⟨seenk, hat⟩ := r.at_ j it hj
 have hoj := r.back hj
 have hkey := r.key hj
 obtain ⟨hk1, hk2⟩ := r.keyF hj
 have hlook : ∀ t, t ∈ xrO it → xbJ S 0 L s t = xbJ (fun x => decide (x < 0 + j)) 0 L s t := by
  intro t ht
  refine xiJ L 0 S _ s s rfl (fun k y hy hd => ?_)
  simp only [Nat.zero_add]
  exact r.pairAgree hS hj hSj hready hy (C := t ∉ xrO it) (fun h => h.dst t hd) (fun h => h ht)
 have hobj : ∀ key ∈ it.foot, xai key (xfS (fun x => decide (x < 0 + j)) 0 L H.objs) = xai key (xfS S 0 L H.objs) := by
  intro key hkey
  rw [xqI, xqI]
  congr 1
  refine (xhu L 0 S _ _ _ r.fines rfl (fun k y hy ht => ?_)).symm
  simp only [Nat.zero_add]
  exact r.pairAgree hS hj hSj hready hy (C := y.touch key = false) (fun h => h.foot key hkey) (fun h => by rw [ht] at h; cases h)
 have hopnd : ∀ c x, x ∈ it.o.op.operands → readS c (xbJ (fun x => decide (x < 0 + j)) 0 L s) x = readS c (xbJ S 0 L s) x := by
  intro c x hx
  refine xsM x fun t ht => ?_
  subst ht
  refine (hlook t ?_).symm
  unfold xrO
  refine List.mem_append.2 (.inl (List.mem_filterMap.2 ⟨.tmp t, by simpa using hx, rfl⟩))
 have hgv : ∀ c ∈ it.ctx, a.tmps.getD c.1 undef = .bool c.2.1 := by
  intro c hc
  have hgu := hat.guard
  unfold xlV at hgu
  cases hctx : it.ctx with
  | nil => rw [hctx] at hc; cases hc
  | cons c0 r0 =>
   obtain ⟨g, want, b⟩ := c0
   rw [hctx] at hgu
   have hch := xi8 (s' := xbJ S 0 L s) 9 g want _ hgu.2.1 (fun c hc => hlook c.1 (by unfold xrO; rw [hctx]; exact List.mem_append.2 (.inr (List.mem_map.2 ⟨c, hc, rfl⟩))))
   rw [hctx] at hc hwant
   exact (xfU hSl 9 g want _ hch).2.1 hwant c hc
 have hrd : ∀ x v, readS it.ctx (xbJ S 0 L s) x = some v → a.eval x = v.den E' ∧ AV.lt (xif L H.next) v := xir hSl _ hgv
 have hlow : ∀ x v, readS it.ctx (xbJ (fun x => decide (x < 0 + j)) 0 L s) x = some v → AV.lt it.key v := fun x v hx => by
  rw [hkey]; exact xvr hat.slots _ x v hx
 obtain ⟨it0, hstep, hsame⟩ := hat.step.2.1.resolve_right (fun h => h hwant)
 refine xAD hsame ?_
 rw [← hsame.o]
 unfold xwE at hstep
 simp only [] at hstep
 split at hstep
 ·-- pick
  rename_i c x y hop
  split at hstep
  ·rename_i v hv
   have hr : it0.x = ⟨none, [], 0, [], v⟩ := (congrArg Item.x (Option.some.inj hstep)).symm
   rw [hr]
   rw [xx6 (s' := xbJ S 0 L s) (fun z hz t ht => by
    subst ht
    refine (hlook t ?_).symm
    unfold xrO
    refine List.mem_append.2 (.inl (List.mem_filterMap.2 ⟨.tmp t, ?_, rfl⟩))
    rw [hop]
    simpa [Op.operands] using hz)] at hv
   obtain ⟨cb, hc, hval, hl⟩ := xsT hSl hgv hv
   refine ⟨xnz _ (xgk (fun k hk => .inl hk) _ hl), fun _ K Q hK => ?_⟩
   refine xit (fun c e => by rw [hop] at e; cases e) (xyX hop hc) (.inl rfl) ?_
   rw [hval]
   exact hK E' w (xnA hH.env _ _)
  ·cases hstep
 ·-- call
  rename_i f args ts hop
  have hnd : ∀ c, it.o.op ≠ .defer c := fun c e => by rw [hop] at e; cases e
  split at hstep
  ·rename_i fi first caps vs hf hvs
   have hfl := hlow _ _ hf
   have hvl : AV.ltL it.key vs := (xha _ _).2 (xmL (Q := AV.lt it.key) hlow _ _ hvs)
   have hargs : AV.ltL it.key (first ++ vs ++ caps) := by
    rw [xha]
    intro v hv
    simp only [List.mem_append] at hv
    rcases hv with (hv | hv) | hv
    ·exact (xha _ _).1 hfl.1 v hv
    ·exact (xha _ _).1 hvl v hv
    ·exact (xha _ _).1 hfl.2 v hv
   rw [hopnd _ f (by rw [hop]; simp [Op.operands, Call.operands])] at hf
   rw [xjR (ρ' := readS it.ctx (xbJ S 0 L s)) _ (fun x hx => hopnd _ x (by rw [hop]; simp only [Op.operands, Call.operands, Array.mem_append]; exact .inr (by simpa using hx)))] at hvs
   have hrun : xe5 P fi → (execOp a.eval it.o).run P w = .ok (.enter fi (AV.denL E' (first ++ vs ++ caps)).toArray) w := fun hfun =>
    xnp hop (hrd _ _ hf).1 (xht (fun x v hx => (hrd x v hx).1) _ _ hvs) hfun
   split at hstep
   ·rename_i ft x hc
    have hx : it0.x = x := (congrArg Item.x (Option.some.inj hstep)).symm
    have hft : it.foot = ft := hsame.foot.trans (congrArg Item.foot (Option.some.inj hstep)).symm
    rw [← hkey] at hc
    rw [← hft] at hc
    obtain ⟨h1, h2, h3⟩ := xtG r.hΓ hH hargs (xyG hc hobj)
    rw [hx]
    exact ⟨h2.eff, xlR hH.env hnd (hrun h1) h2 h3⟩
   ·split at hstep
    ·rename_i x hc
     have hx : it0.x = x := (congrArg Item.x (Option.some.inj hstep)).symm
     have hall : it.all = true := hsame.all.trans (congrArg Item.all (Option.some.inj hstep)).symm
     rw [← hkey] at hc
     have hmem : ∀ o ∈ H.objs, o ∈ xfS S 0 L H.objs := by
      intro o ho
      rw [xpx]
      have e : xhH o.key (xfS S 0 L H.objs) = xhH o.key (xfS (fun _ => false) 0 L H.objs) := by
       refine xhu L 0 S _ _ _ r.fines rfl (fun k y hy ht => ?_)
       simp only [Nat.zero_add]
       have hk0 := (r.hobjs o ho).1
       rcases xoS.1 ht with h1 | h1
       ·-- an old object is turned: behind
        have hnot : ¬ (∀ k ∈ y.x.rm, H.next ≤ k) := fun h => by have := h _ h1; omega
        have hsa := r.pairAgree hS hj hSj hready hy (C := ∀ k ∈ y.x.rm, H.next ≤ k) (fun h => h.all hall) hnot
        have hao := r.alls j it k y hj hy
        unfold xDN at hao
        rw [hall] at hao
        simp only [Bool.not_true, Bool.false_or, Bool.or_eq_true] at hao
        rcases hao with hao | hao
        ·exfalso
         exact hnot fun k hk => by simpa using List.all_eq_true.1 hao k hk
        ·rw [hsa]
         have : j < k := by simpa using hao
         simp; omega
       ·have := (r.keyF hy).1
        omega
      rw [e, xns _ _ _ _ (fun _ _ => rfl), ← xpx]
      exact ho
     have hH0 : xag X E' w0 ⟨H.objs, it.key⟩ w := hH.sub hmem (fun o ho => ⟨Nat.lt_of_lt_of_le (r.hobjs o ho).1 hk1, xa3 (fun k hk => Nat.lt_of_lt_of_le hk hk1) (r.hobjs o ho).2⟩)
     obtain ⟨h2, h3⟩ := xp0 r.hcall (H := ⟨H.objs, it.key⟩) hc hH0 hargs
     have h1 : xe5 P fi := r.hk fi (first ++ vs ++ caps) _ fun e => (by rw [e] at hc; cases hc)
     rw [hx]
     exact ⟨h2.eff, xlR hH.env hnd (hrun h1) h2 h3⟩
    ·cases hstep
  ·cases hstep
 ·-- all else
  split at hstep
  ·rename_i x hx
   have hr : it0.x = x := (congrArg Item.x (Option.some.inj hstep)).symm
   have hfoot : it.foot = xte (readS it.ctx (xbJ (fun x => decide (x < 0 + j)) 0 L s)) it.o.op := hsame.foot.trans (congrArg Item.foot (Option.some.inj hstep)).symm
   have hclear := r.clear hS hj hSj hready
   have hrd2 : ∀ x v, x ∈ it.o.op.operands → readS it.ctx (xbJ S 0 L s) x = some v → AV.lt it.key v := fun x v hm hx => hlow x v (by rw [hopnd _ x hm]; exact hx)
   rw [← hkey] at hx
   have hx2 : xp9 P (fun x => if x ∈ it.o.op.operands then readS it.ctx (xbJ S 0 L s) x else none) (xfS S 0 L H.objs) it.key it.o.op = some x := by
    rw [← hx]
    symm
    refine xyP it.o.op (fun x hm => ?_) (fun key hk => hobj key (by rw [hfoot]; exact hk))
    rw [if_pos hm]
    exact hopnd _ x hm
   have hnd : ∀ c, it.o.op ≠ .defer c := fun c e => by
    rw [e] at hx
    unfold xp9 at hx
    simp [xhk] at hx
   have hs := xkc (P := P) (e := a.eval) hH (fun x v hx => by
    split at hx
    ·rename_i hm
     exact ⟨(hrd x v hx).1, hrd2 x v hm hx⟩
    ·cases hx) (show it.key ≤ xif L H.next by omega) it.o hx2 (fun hn o ho => by
     obtain ⟨q1, q2⟩ := hclear.1 o ho
     unfold Away at q1 q2
     rw [hsame.nk, hr] at q1 q2
     exact ⟨by omega, xa3 (fun k hk => by omega) q2⟩)
   rw [hr]
   exact ⟨hs.1, xu4 hnd hs.2.1⟩
  ·cases hstep
theorem Run.invStep (r : Run P Γ call N ops H s L) {S S' : Nat → Bool} (hS : xrB ops S) {j : Nat} {it : Item} (hj : L[j]? = some it) (hSj : S j = false) (hready : ∀ e ∈ it.o.after, Region.binds .any e = true → S e.on = true) (hS' : ∀ m, S' m = (S m || Nat.beq m j))
  (hneed : ∀ p, it.need = some p → p) {a : Act} {w : World} (hinv : Inv N D X w0 H s L E S a w) {K : Act → World → Prop} {Q : Exit → Act → World → Prop} (hK : ∀ a2 w2, Inv N D X w0 H s L E S' a2 w2 → K a2 w2) : wpOpIn (FR rnd) 0 P ops Q j K a w := by
 obtain ⟨E', hE, hSl, hH⟩ := hinv
 obtain ⟨seenk, hat⟩ := r.at_ j it hj
 have hoj := r.back hj
 have hf := r.fine hj
 obtain ⟨hk1, hk2⟩ := r.keyF hj
 have hd : ∀ d, it.o.dst = some d → d < N ∧ ∀ t g want v, xbJ S 0 L s t = .when g want v → g ≠ d := fun d hd => ⟨r.dstN hj hd, r.noGuard hS hj hSj hd⟩
 have tr_slots : ∀ t, xbJ S' 0 L s t = put (xbJ S 0 L s) it.o.dst it.slot t := fun t =>
  xuH L 0 j S S' s hj (by omega) hSj hS' (fun k' y hy hne hx hty => hne (r.distinct hy hj hty hx))
 have tr_objs : ∀ key, xhH key (xhc it.x (xfS S 0 L H.objs)) = xhH key (xfS S' 0 L H.objs) := fun key =>
  (xw3 L 0 j S S' H.objs r.fines hj (by omega) hSj hS' (fun k' y hy hlt hx hty => by
   have hne : j ≠ k' := by omega
   have := r.agree hS hoj hSj hready hy hne (r.touchBoth hj hy hne hx hty)
   rw [Nat.zero_add, this]
   simp; omega)).symm
 have done : ∀ {E2 : Env} {u : Value} {w2 : World} {l : List Obj}, (∀ k, k < H.next → E2 k = E k) → xaO E2 (xif L H.next) N D (put (xbJ S 0 L s) it.o.dst it.slot) (a.put it.o.dst u) → l = xhc it.x (xfS S 0 L H.objs) → xag X E2 w0 ⟨l, xif L H.next⟩ w2 → K (a.put it.o.dst u) w2 := by
  intro E2 u w2 l hE2 hs2 hl hh2
  subst hl
  exact hK _ _ ⟨E2, hE2, hs2.point tr_slots, hh2.congr tr_objs⟩
 have hguard := hat.guard
 have hl : AV.lt (xif L H.next) it.x.v := xg9 hk2 _ hf.val
 have hlooks : ∀ c ∈ it.ctx, xbJ S 0 L s c.1 = xbJ (fun x => decide (x < 0 + j)) 0 L s c.1 := by
  intro c hc
  refine xiJ L 0 S _ s s rfl (fun k y hy hdy => ?_)
  simp only [Nat.zero_add]
  exact r.pairAgree hS hj hSj hready hy (C := c.1 ∉ xrO it) (fun h => h.dst _ hdy) (fun h => h (by unfold xrO; exact List.mem_append.2 (.inr (List.mem_map.2 ⟨c, hc, rfl⟩))))
 have hctxok : xAn a it.o it.ctx := by
  cases hc : it.ctx with
  | nil => trivial
  | cons c0 r0 =>
   obtain ⟨g, want, b⟩ := c0
   unfold xlV at hguard
   rw [hc] at hguard hlooks
   have hch := xi8 (s' := xbJ S 0 L s) 9 g want _ hguard.2.1 hlooks
   obtain ⟨q1, q2, _⟩ := xfU hSl 9 g want _ hch
   refine ⟨q1, q2, fun e => ?_⟩
   rcases hat.from_ g hguard.1 with h | ⟨k', y, hk', hy, hdy⟩
   ·cases h
   ·have := r.distinct hy hj hdy e; omega
 have exec : xe8 it.ctx → it.o.wpIn (FR rnd) 0 P a w K Q := by
  intro hb
  obtain ⟨hwf, hdoes⟩ := r.does (rnd := rnd) hS hj hSj hready hSl hH hb
  have hclear := r.clear hS hj hSj hready
  have hholds : it.x.holds := by
   unfold Eff.holds
   cases hp : it.x.p with
   | none => trivial
   | some q => exact xtx (hneed _ (by unfold Item.need; rw [hp]; rfl)) hb
  refine hdoes hholds K Q fun E2 w2 he => ?_
  have hH2 := hH.effAt hwf he hclear.1 (n' := xif L H.next) (Nat.le_refl _) hk2
  refine done (fun k hk => by rw [he.agree k (.inl (by omega))]; exact hE k hk) ?_ rfl hH2
  have hSl2 : xaO E2 (xif L H.next) N D (xbJ S 0 L s) a := hSl.envAll (fun k hk => he.agree k hk) hclear.2
  unfold Item.slot
  split
  ·exact (xld hSl2 hd hctxok hl).1 hb
  ·exact hSl2.put hd ⟨rfl, hl⟩
 unfold wpOpIn
 rw [hoj]
 simp only []
 cases hc : it.ctx with
 | nil =>
  unfold xlV at hguard
  rw [hc] at hguard
  rw [if_pos (by simp [Region.wanted, hguard])]
  exact exec (fun c h => by rw [hc] at h; cases h)
 | cons c0 r0 =>
  obtain ⟨g, want, b⟩ := c0
  have hguard0 := hguard
  have hctx0 := hctxok
  unfold xlV at hguard
  rw [hc] at hguard hctx0
  obtain ⟨hseen, _, jg, og, hg1, hg2, hg3⟩ := hguard
  by_cases hb : xe8 it.ctx
  ·have hgv : a.tmps.getD g undef = .bool want := hctx0.1.2 (by rw [← hc]; exact hb)
   rw [if_pos (by simp [Region.wanted, hg1, xqb hg2 hg3 hgv])]
   exact exec hb
  ·have hgv : a.tmps.getD g undef ≠ .bool want := fun e => hb (by rw [hc]; exact hctx0.1.1 e)
   have hnw : ¬ Region.wanted it.o (yielded ops a.tmps) = true := by
    intro hw
    unfold Region.wanted at hw
    rw [hg1] at hw
    have hw : (yielded ops a.tmps jg == some want) = true := hw
    have hy : yielded ops a.tmps jg = some want := by simpa using hw
    unfold yielded at hy
    simp only [hg2, Option.bind_some, hg3] at hy
    cases ht : a.tmps[g]? with
    | none => rw [ht] at hy; cases hy
    | some v =>
     rw [ht] at hy
     cases v <;> simp at hy
     subst hy
     exact hgv (by rw [Array.getD_eq_getD_getElem?, ht]; rfl)
   rw [if_neg hnw]
   refine ⟨fun _ _ => trivial, ?_⟩
   have hpure : it.x.pure = true := by
    rcases hf.pure with h | h | h
    ·exact h
    ·rw [hc] at h; cases h
    ·exact absurd (hat.step.1 h) hb
   obtain ⟨e1, e2, e3⟩ := xwV hpure
   refine done hE ?_ (l := xfS S 0 L H.objs) (by unfold xhc; rw [e1, e2, List.nil_append]; symm; exact List.filter_eq_self.2 (fun _ _ => rfl)) hH
   unfold Item.slot
   rw [hpure]
   exact (xld hSl hd hctxok hl).2 _ _ hc hb
theorem xtw {p q : Nat → Bool} : ∀ {l : List Nat} {j : Nat}, (∀ x, q x = true → p x = true) → j ∈ l → p j = true → q j = false → l.countP q < l.countP p
 | [], j, _, h, _, _ => by cases h
 | x :: r, j, hqp, h, hp, hq => by
  have mono : r.countP q ≤ r.countP p := List.countP_mono_left (fun x _ h => hqp x h)
  simp only [List.countP_cons]
  rcases List.mem_cons.1 h with rfl | h
  ·rw [hp, hq]; simp; omega
  ·have := xtw hqp h hp hq
   cases hx : q x with
   | true => rw [hqp x hx]; simp; omega
   | false => simp; omega
theorem Run.all (r : Run P Γ call N ops H s L) {Q : Exit → Act → World → Prop} (hneed : ∀ (k : Nat) (it : Item) (p : Prop), L[k]? = some it → it.need = some p → p)
  (hpost : Post X w0 E H N D (Q .normal) (xbJ (fun _ => true) 0 L s, ⟨xfS (fun _ => true) 0 L H.objs, xif L H.next⟩)) :
  ∀ (fuel : Nat) (listed : Array Bool) (a : Act) (w : World), listed.size = ops.size → xrB ops (fun m => listed.getD m false) → Inv N D X w0 H s L E (fun m => listed.getD m false) a w →
   (List.range ops.size).countP (fun i => !(listed.getD i false)) ≤ fuel → wpAnyIn (FR rnd) 0 P .any ops Q fuel listed a w := by
 have hlen : L.length = ops.size := by
  have := congrArg List.length r.hops
  simpa using this
 have full : ∀ (listed : Array Bool) (a : Act) (w : World), Inv N D X w0 H s L E (fun m => listed.getD m false) a w → (∀ j, j < ops.size → listed.getD j false = true) → Q .normal a w := by
  intro listed a w hinv hfull
  obtain ⟨E', hE, hSl, hH⟩ := hinv
  have hS : ∀ k it, L[k]? = some it → listed.getD (0 + k) false = true := fun k it hk => by
   have : k < L.length := by
    rcases Nat.lt_or_ge k L.length with h | h
    ·exact h
    ·rw [List.getElem?_eq_none h] at hk; cases hk
   rw [Nat.zero_add]; exact hfull k (by omega)
  refine hpost E' a w hE (hSl.point fun t => ?_) (hH.congr fun key => ?_) (xlK _ _) (xsV L 0 _ H.objs (fun o ho _ => ho) (fun k it hk _ o ho hv => ?_))
  ·exact xiJ L 0 (fun _ => true) (fun m => listed.getD m false) s s rfl (fun k it hk _ => (hS k it hk).symm)
  ·exact xhu L 0 (fun m => listed.getD m false) (fun _ => true) _ _ r.fines rfl (fun k it hk _ => hS k it hk)
  ·have h1 := (r.fine hk).ver o ho
   have h2 := (r.keyF hk).1
   have h3 : o.ver < H.next := hv
   omega
 have getD_eq : ∀ (listed : Array Bool), listed.size = ops.size → ∀ j, j < ops.size → listed.getD j true = listed.getD j false := by
  intro listed hl j hj
  have : j < listed.size := by omega
  simp [Array.getD, this]
 have ready_full : ∀ (listed : Array Bool), listed.size = ops.size → Region.ready .any ops listed = [] → ∀ n j, j < n → j < ops.size → listed.getD j false = true := by
  intro listed hl hr n
  induction n with
  | zero => intro j h; omega
  | succ n ih =>
   intro j hjn hj
   cases hb : listed.getD j false with
   | true => rfl
   | false =>
    exfalso
    have hmem : j ∈ Region.ready .any ops listed := by
     refine mem_ready.2 ⟨by rw [getD_eq listed hl j hj]; exact hb, ops[j], by simp [hj], fun e he hbi => ?_⟩
     have hlt := r.edge j ops[j] (by simp [hj]) e he hbi
     exact ih e.on (by omega) (by omega)
    rw [hr] at hmem
    cases hmem
 intro fuel
 induction fuel with
 | zero =>
  intro listed a w hl hcl hinv hcount
  have hfull : ∀ j, j < ops.size → listed.getD j false = true := by
   intro j hj
   cases hb : listed.getD j false with
   | true => rfl
   | false =>
    exfalso
    have : 0 < (List.range ops.size).countP (fun i => !(listed.getD i false)) := List.countP_pos_iff.2 ⟨j, by simpa using hj, by rw [hb]; rfl⟩
    omega
  refine ⟨?_, full listed a w hinv hfull⟩
  rw [List.eq_nil_iff_forall_not_mem]
  intro j hj
  obtain ⟨hju, oj, hoj, _⟩ := mem_ready.1 hj
  have hlt : j < ops.size := by
   rcases Nat.lt_or_ge j ops.size with h | h
   ·exact h
   ·simp [h] at hoj
  rw [getD_eq listed hl j hlt, hfull j hlt] at hju
  cases hju
 | succ fuel ih =>
  intro listed a w hl hcl hinv hcount
  refine ⟨fun h => full listed a w hinv (fun j hj => ready_full listed hl h (j + 1) j (by omega) hj), fun j hj => ?_⟩
  obtain ⟨hju, oj, hoj, hall⟩ := mem_ready.1 hj
  have hlt : j < ops.size := by
   rcases Nat.lt_or_ge j ops.size with h | h
   ·exact h
   ·simp [h] at hoj
  rw [getD_eq listed hl j hlt] at hju
  obtain ⟨it, hit, hio⟩ := r.get hoj
  subst hio
  have hset : ∀ m, (listed.setIfInBounds j true).getD m false = (listed.getD m false || Nat.beq m j) := by
   intro m
   by_cases hm : m = j
   ·subst hm
    rw [xdM]
    simp [Array.getD_eq_getD_getElem?, hl, hlt]
   ·rw [xil hm]
    simp [Array.getD_eq_getD_getElem?, Array.getElem?_setIfInBounds_ne (fun e => hm e.symm)]
  refine r.invStep (S := fun m => listed.getD m false) (S' := fun m => (listed.setIfInBounds j true).getD m false) hcl hit hju (fun e he hb => hall e he hb) hset (fun p hp => hneed j it p hit hp) hinv (fun a2 w2 hinv2 => ?_)
  refine ih _ a2 w2 (by simpa using hl) ?_ hinv2 ?_
  ·intro i o ho hSi e he hb
   simp only [hset] at hSi ⊢
   rcases Bool.or_eq_true _ _ ▸ hSi with h | h
   ·have h2 : listed.getD e.on false = true := hcl i o ho h e he hb
    rw [h2]; rfl
   ·have hij : i = j := Nat.eq_of_beq_eq_true h
    subst hij
    rw [hoj] at ho
    cases ho
    rw [hall e he hb]; rfl
  ·have := xtw (p := fun i => !(listed.getD i false)) (q := fun i => !((listed.setIfInBounds j true).getD i false)) (l := List.range ops.size) (j := j)
    (fun x hx => by
     rw [hset] at hx
     cases hb : listed.getD x false with
     | true => rw [hb] at hx; simp at hx
     | false => rfl) (by simpa using hlt) (by rw [hju]; rfl) (by rw [hset, xdM]; simp)
   omega
theorem xoF {α : Type} {Q : α → Prop} {t : Tree α} : ∀ {L : List Item}, (xya L t).holds Q → (∀ (k : Nat) (it : Item) (p : Prop), L[k]? = some it → it.need = some p → p) ∧ t.holds Q
 | [], h => ⟨fun k it p hk => by simp at hk, h⟩
 | x :: r, h => by
  unfold xya at h
  split at h
  ·rename_i q hq
   obtain ⟨h1, h2⟩ := xoF (L := r) h.2
   refine ⟨fun k it p hk hp => ?_, h2⟩
   cases k with
   | zero => simp at hk; subst hk; rw [hq] at hp; cases hp; exact h.1
   | succ k => exact h1 k it p (by simpa using hk) hp
  ·rename_i hq
   obtain ⟨h1, h2⟩ := xoF (L := r) h
   refine ⟨fun k it p hk hp => ?_, h2⟩
   cases k with
   | zero => simp at hk; subst hk; rw [hq] at hp; cases hp
   | succ k => exact h1 k it p (by simpa using hk) hp
theorem xpa (n m : Nat) : (Array.replicate n false).getD m false = false := by
 rw [Array.getD_eq_getD_getElem?, Array.getElem?_replicate]
 split <;> rfl
theorem xxz (hΓ : xaI P Γ) (hcall : xkF P call) (hk : xhl P call) {a : Act} {w : World} (hS : xaO E H.next N D s a) (hG : xmb s []) (hH : xag X E w0 H w) {id : Nat} {Q : Exit → Act → World → Prop}
  : ∀ (n : Nat) (as : List (Nat × Bool)), (xtt P Γ call N ops s H n as).holds (Post X w0 E H N D (Q .normal)) → (Code.region id ops true).wpIn (FR rnd) 0 P Q a w := by
 intro n
 induction n with
 | zero => intro as h; exact h.elim
 | succ n ih =>
 intro as h
 unfold xtt at h
 split at h
 ·rename_i L hrun
  split at h
  ·rename_i hc
   rw [Bool.and_eq_true] at hc
   obtain ⟨hmix, hord⟩ := hc
   obtain ⟨hneed, hpost⟩ := xoF h
   obtain ⟨hmap, hchain⟩ := xqo _ _ _ _ _ hrun
   have hslots : xiH (fun x => x < H.next) s := by
    intro t
    have := hS.ok t
    cases hs : s t with
    | is v => rw [hs] at this; exact this.2
    | when g want v => rw [hs] at this; exact this.1
    | junk => trivial
   unfold xAZ at hord
   simp only [Bool.and_eq_true] at hord
   obtain ⟨hedge, hpairs⟩ := hord
   have r : Run P Γ call N ops H s L := {
    hΓ := hΓ, hcall := hcall, hk := hk, hops := hmap
    at_ := fun k it hk => xzt L 0 k [] s H it hchain hslots hk
    hslots := hslots, nowhen := hG, hobjs := hH.lt
    pair := fun j x m y hj hm _ => by
     have h1 := List.all_eq_true.1 hpairs (x, j) (List.mem_zipIdx_iff_getElem?.2 hj)
     have h2 := List.all_eq_true.1 h1 (y, m) (List.mem_zipIdx_iff_getElem?.2 hm)
     rw [Bool.and_eq_true] at h2
     exact h2.1
    alls := fun j x m y hj hm => by
     have h1 := List.all_eq_true.1 hpairs (x, j) (List.mem_zipIdx_iff_getElem?.2 hj)
     have h2 := List.all_eq_true.1 h1 (y, m) (List.mem_zipIdx_iff_getElem?.2 hm)
     rw [Bool.and_eq_true] at h2
     exact h2.2
    edge := fun i o ho e he hb => by
     have h1 := List.all_eq_true.1 hedge (o, i) (List.mem_zipIdx_iff_getElem?.2 (by simpa using ho))
     have h2 := Array.all_eq_true_iff_forall_mem.1 h1 e he
     rw [hb] at h2
     simpa using h2 }
   refine wpIn_region_any hmix (r.all hneed hpost ops.size _ a _ (by simp) (fun i o _ hi => ?_) ⟨E, fun _ _ => rfl, ?_, ?_⟩ ?_)
   ·rw [show (fun m => (Array.replicate ops.size false).getD m false) i = false from xpa _ _] at hi; cases hi
   ·have e : xbJ (fun m => (Array.replicate ops.size false).getD m false) 0 L s = s := xow _ _ _ _ (fun m _ => xpa _ _)
    rw [e]
    exact ⟨hS.defers, hS.size, (hS.env (fun _ _ => rfl) (xlK L H.next)).ok⟩
   ·have e : xfS (fun m => (Array.replicate ops.size false).getD m false) 0 L H.objs = H.objs := xns _ _ _ _ (fun m _ => xpa _ _)
    rw [e]
    exact hH.drew.sub (fun o ho => ho) (fun o ho => ⟨Nat.lt_of_lt_of_le (hH.lt o ho).1 (xlK L H.next), xa3 (fun k hk => Nat.lt_of_lt_of_le hk (xlK L H.next)) (hH.lt o ho).2⟩)
   ·refine Nat.le_trans List.countP_le_length ?_
    simp
  ·exact h.elim
 ·split at h
  ·rename_i g b _
   cases b with
   | true => exact ih _ (h.1 rfl)
   | false => exact ih _ (h.2 rfl)
  ·exact h.elim
theorem xrV (hΓ : xaI P Γ) (hcall : xkF P call) (hk : xhl P call) {a : Act} {w : World} (hS : xaO E H.next N D s a) (hG : xmb s []) (hH : xag X E w0 H w) {id : Nat} {Q : Exit → Act → World → Prop}
  (h : (xqM P Γ call N ops s H).holds (Post X w0 E H N D (Q .normal))) : (Code.region id ops true).wpIn (FR rnd) 0 P Q a w := xxz hΓ hcall hk hS hG hH _ _ h
end
end Go.Sy
