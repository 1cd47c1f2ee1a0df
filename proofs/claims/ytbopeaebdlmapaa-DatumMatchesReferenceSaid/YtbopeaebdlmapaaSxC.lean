/-
  The executor's operations are sound, the main theorem: one operation (no call of a Go function).
-/
import Derived.Test.YtbopeaebdlmapaaSxB
namespace Go.Sx
open Go.RowKit
section
variable {P : Program} {ro : Nat} {E : Env} {w0 w : World} {H : Heap} {ρ : Operand → Option AV} {e : Operand → Value}

theorem eqFields_sound {d : Nat} {eq : TypeId → AV → AV → Option Bool} (heq : ∀ t x y r, eq t x y = some r → ∀ w, (Op.equalIn d t (x.den E) (y.den E)).run P w = .ok r w) (xs ys : List AV) :
    ∀ (fs : List Field) (r : Bool), eqFields P eq xs ys fs = some r → ∀ w, (Op.eqFields d (AV.denL E xs).toArray (AV.denL E ys).toArray fs).run P w = .ok r w
  | [], r, h, w => by cases h; rfl
  | f :: fs, r, h, w => by
    unfold eqFields at h
    split at h
    · cases h
    · rename_i hn
      split at h
      · rename_i a b ha hb
        split at h
        · rename_i u v hu hv
          cases h
          have ih := eqFields_sound heq xs ys fs v hv w
          simp only [Op.eqFields, ne_eq, hn, not_false_eq_true, if_true, Sem.run_bind, run_partA ha, run_partA hb, Result.andThen_ok, heq _ _ _ _ hu]
          cases u
          · simp
          · simpa using ih
        · cases h
      · cases h
theorem eqItems_sound {d : Nat} {eq : TypeId → AV → AV → Option Bool} (heq : ∀ t x y r, eq t x y = some r → ∀ w, (Op.equalIn d t (x.den E) (y.den E)).run P w = .ok r w) (t : TypeId) (c : Nat) (xs ys : List AV) :
    ∀ (is : List Nat) (r : Bool), eqItems P eq t c xs ys is = some r → ∀ w, (Op.eqItems d t c (AV.denL E xs).toArray (AV.denL E ys).toArray is).run P w = .ok r w
  | [], r, h, w => by cases h; rfl
  | i :: is, r, h, w => by
    unfold eqItems at h
    split at h
    · rename_i a b ha hb
      split at h
      · rename_i u v hu hv
        cases h
        have ih := eqItems_sound heq t c xs ys is v hv w
        simp only [Op.eqItems, Sem.run_bind, run_partA ha, run_partA hb, Result.andThen_ok, heq _ _ _ _ hu]
        cases u
        · simp
        · simpa using ih
      · cases h
    · cases h
theorem eqA_sound : ∀ (d : Nat) (t : TypeId) (x y : AV) (r : Bool), eqA P d t x y = some r → ∀ (m : Nat) (w : World), (Op.equalIn (d + m) t (x.den E) (y.den E)).run P w = .ok r w
  | 0, t, x, y, r, h, _, _ => by cases h
  | d + 1, t, x, y, r, h, m, w => by
    have ih : ∀ t x y r, eqA P d t x y = some r → ∀ w, (Op.equalIn (d + m) t (x.den E) (y.den E)).run P w = .ok r w := fun t x y r h w => eqA_sound d t x y r h m w
    have ed : d + 1 + m = (d + m) + 1 := by omega
    rw [ed]
    unfold eqA at h
    split at h
    · rename_i hu
      cases h
      simp [AV.den, Op.equalIn, run_underlying hu]
    · rename_i hu
      split at h
      · rename_i hk
        subst hk
        cases h
        simp [AV.den, Op.equalIn, run_underlying hu]
      · cases h
    · rename_i fs xs ys hu
      split at h
      · rename_i hs
        have hf : P.fieldsOf t = fs := by simp [Program.fieldsOf, hu]
        simp only [AV.den]
        rw [run_equalIn_struct w (d + m) t _ _ (by rw [hf]; exact hu) hs, hf]
        exact eqFields_sound ih xs ys fs.toList r h w
      · cases h
    · rename_i n te xs ys hu
      split at h
      · rename_i i hi
        simp only [AV.den]
        rw [run_equalIn_array w (d + m) _ _ hu hi]
        have hc : P.cellsOf te = i.size := by simp [Program.cellsOf, hi]
        rw [hc]
        exact eqItems_sound ih te i.size xs ys (List.range n) r h w
      · cases h
    · cases h

theorem mm_sound {op : Int → Int → Int} {f : Value → Value → Sem Value} (hf : ∀ k a b, f (.int k a) (.int k b) = pure (.int k (op a b))) (k : IntKind) : ∀ (l : List AV) (a : Int) (v : AV), mm op k a l = some v → ∀ w, ((AV.denL E l).foldlM f (.int k a)).run P w = .ok (v.den E) w
  | [], a, v, h, w => by cases h; rfl
  | .int k' b :: r, a, v, h, w => by
    unfold mm at h
    split at h
    · rename_i hk
      subst hk
      have ih := mm_sound hf k r _ v h w
      simpa [AV.denL, AV.den, hf] using ih
    · cases h
  | .bool _ :: _, _, _, h, _ => by simp [mm] at h
  | .ptr _ _ :: _, _, _, h, _ => by simp [mm] at h
  | .val _ :: _, _, _, h, _ => by simp [mm] at h
  | .fn _ _ _ :: _, _, _, h, _ => by simp [mm] at h
  | .agg _ :: _, _, _, h, _ => by simp [mm] at h
  | .tup _ :: _, _, _, h, _ => by simp [mm] at h
theorem mm_int {op : Int → Int → Int} {k : IntKind} : ∀ {l : List AV} {a : Int} {v : AV}, mm op k a l = some v → ∃ n, v = .int k n
  | [], a, v, h => by cases h; exact ⟨_, rfl⟩
  | .int k' b :: r, a, v, h => by
    unfold mm at h
    split at h
    · exact mm_int h
    · cases h
  | .bool _ :: _, _, _, h => by simp [mm] at h
  | .ptr _ _ :: _, _, _, h => by simp [mm] at h
  | .val _ :: _, _, _, h => by simp [mm] at h
  | .fn _ _ _ :: _, _, _, h => by simp [mm] at h
  | .agg _ :: _, _, _, h => by simp [mm] at h
  | .tup _ :: _, _, _, h => by simp [mm] at h

/-- What one operation does, said of the model. -/
def OpOk (P : Program) (ro : Nat) (E : Env) (w0 : World) (H : Heap) (e : Operand → Value) (w : World) (o : Oper) : R → Prop
  | .val v => (execOp e o).run P w = .ok (.value (v.den E)) w
  | .chk p v => p → (execOp e o).run P w = .ok (.value (v.den E)) w
  | .new cs => ∃ T, (execOp e o).run P w = .ok (.value (.pointer (some ⟨w.heap.size, 0, none⟩))) (w.alloc (.cells (AV.denL E cs).toArray T))
  | .st key off cs => ro ≤ key → ∃ w', (execOp e o).run P w = .ok .skip w' ∧ HeapOk ro E w0 { H with objs := putObj key off cs H.objs } w'
  | .bad => True

theorem intOp_sound (op : BinOp) (k : IntKind) (a b : Int) (t yt : TypeId) (x y : Operand) (o : Oper) (ho : o.op = .binOp op t x y yt) (hx : e x = .int k a) (hy : e y = .int k b) : OpOk P ro E w0 H e w o (intOp op k a b) := by
  cases op <;> simp only [intOp, OpOk, ne_eq] <;> first
    | trivial
    | (simp [execOp, ho, hx, hy, eqGuard, binOp, Op.intArith, Op.intCmp, AV.den]; done)
    | (intro hb; simp [execOp, ho, hx, hy, eqGuard, binOp, Op.intDiv, AV.den, hb]; done)

theorem put_objOk {T' : TypeId} {o : Obj} {off : Nat} {vs : List AV} (hH : HeapOk ro E w0 H w) (hmem : o ∈ H.objs) (hro : ro ≤ o.key) (hT : w.heap[E o.key]? = some (.cells (AV.denL E o.cells).toArray T' (0, 0))) (hv : AV.ltL H.next vs) :
    HeapOk ro E w0 { H with objs := putObj o.key off vs H.objs } (w.setRow (E o.key) (AV.denL E (setFrom o.cells off vs)).toArray) := by
  have hrow : ∀ k, k ≠ E o.key → (w.setRow (E o.key) (AV.denL E (setFrom o.cells off vs)).toArray).heap[k]? = w.heap[k]? := fun k hk => by
    simp only [World.setRow, Array.getElem?_modify]
    rw [if_neg (by omega)]
  have hself : (w.setRow (E o.key) (AV.denL E (setFrom o.cells off vs)).toArray).heap[E o.key]? = some (.cells (AV.denL E (setFrom o.cells off vs)).toArray T' (0, 0)) := setRow_heap w _ _ _ _ _ hT
  have hB := (hH.objs o hmem).1 hro
  refine ⟨?_, ?_, ?_, ?_⟩
  · refine hH.below.trans ⟨rfl, rfl, rfl, by simp [World.setRow], fun k hk => hrow k (by omega)⟩
  · intro x hx
    obtain ⟨x', hx', hk, hcase⟩ := mem_putObj hx
    obtain ⟨hb, T, hT2⟩ := hH.objs x' hx'
    rw [hk] at hb
    refine ⟨hb, ?_⟩
    rcases hcase with ⟨hne, rfl⟩ | ⟨hkey, hcells⟩
    · have hne' : E x.key ≠ E o.key := fun e => hne (by rw [hH.inj x hx' o hmem e])
      exact ⟨T, by rw [hrow _ hne']; exact hT2⟩
    · have hxo : x' = o := hH.inj x' hx' o hmem (by rw [hkey])
      subst hxo
      rw [← hk, hcells]
      exact ⟨T', hself⟩
  · intro x hx y hy hxy
    obtain ⟨x', hx', hk, hcase⟩ := mem_putObj hx
    obtain ⟨y', hy', hk2, hcase2⟩ := mem_putObj hy
    have e : x' = y' := hH.inj x' hx' y' hy' (by rw [hk, hk2]; exact hxy)
    subst e
    rcases hcase with ⟨hne, rfl⟩ | ⟨hkey, hcells⟩ <;> rcases hcase2 with ⟨hne2, h2⟩ | ⟨hkey2, hcells2⟩
    · exact h2.symm
    · exact absurd hkey2 hne
    · exact absurd hkey hne2
    · cases x; cases y
      simp only at hk hk2 hcells hcells2
      rw [← hk, ← hk2, hcells, hcells2]
  · intro x hx
    obtain ⟨x', hx', hk, hcase⟩ := mem_putObj hx
    obtain ⟨h1, h2⟩ := hH.lt x' hx'
    rw [← hk]
    refine ⟨h1, ?_⟩
    rcases hcase with ⟨_, rfl⟩ | ⟨_, hcells⟩
    · exact h2
    · rw [hcells]; exact lt_setFrom h2 hv

theorem addr_add (b off i : Nat) : (⟨b, off, none⟩ : Addr).add i = ⟨b, off + i, none⟩ := by unfold Addr.add; split <;> simp_all

theorem absOp0_sound (hρ : ∀ x v, ρ x = some v → e x = v.den E ∧ AV.lt H.next v) (hH : HeapOk ro E w0 H w) (o : Oper) : OpOk P ro E w0 H e w o (absOp0 P ρ H o.op) := by
  have hρ1 : ∀ x v, ρ x = some v → e x = v.den E := fun x v h => (hρ x v h).1
  generalize hop : o.op = op
  unfold absOp0
  split
  · -- move
    split
    · rename_i v hv; simp [OpOk, execOp, hop, hρ1 _ _ hv]
    · trivial
  · split
    · rename_i v hv; simp [OpOk, execOp, hop, hρ1 _ _ hv]
    · trivial
  · -- alloc
    rename_i t
    split
    · rename_i z hz
      have hpl : z.plainCells = true := by
        unfold zeroA at hz
        split at hz
        · rename_i i _
          cases h2 : i.zero with
          | none => simp [h2] at hz
          | some v => simp [h2] at hz; subst hz; exact plain_ofValue v
        · cases hz
      exact ⟨t, by simp [execOp, hop, Instr.alloc, run_zeroA hz E, newVar, newRow, cells_den hpl]⟩
    · trivial
  · -- box
    rename_i t x
    split
    · rename_i v hv
      split
      · rename_i hpl
        exact ⟨t, by simp [execOp, hop, Instr.box, hρ1 _ _ hv, newVar, newRow, cells_den hpl]⟩
      · trivial
    · trivial
  · -- build
    rename_i t parts
    split
    · rename_i z place ps hz hp hps
      split
      · rename_i cs hcs
        have hbuilt : P.built t (parts.map fun (i, x) => (i, e x)).toList = some (AV.denL E cs).toArray := by
          have hl : (parts.map fun (i, x) => (i, e x)).toList = ps.map fun p => (p.1, p.2.den E) := by
            rw [Array.toList_map]; exact readParts_sound hρ1 _ _ hps
          have hf := fill_sound E ps z.cells cs hcs
          rw [hl]
          have hpl : z.plainCells = true := by
            unfold zeroA at hz
            split at hz
            · rename_i i _
              cases h2 : i.zero with
              | none => simp [h2] at hz
              | some v => simp [h2] at hz; subst hz; exact plain_ofValue v
            · cases hz
          unfold zeroA at hz
          unfold Program.built
          split at hz
          · rename_i it hit
            cases h2 : it.zero with
            | none => simp [h2] at hz
            | some v =>
              have hzc : v.cells.toList = AV.denL E z.cells := by
                have := cells_den hpl E
                simp only [h2, Option.map_some, Option.some.injEq] at hz
                rw [← hz, den_ofValue] at this
                rw [this, hz]
              have hzc' : v.cells = (AV.denL E z.cells).toArray := by rw [← hzc]
              unfold placesA at hp
              split at hp
              · rename_i n te hu
                cases hie : P.info? te with
                | none => simp [hie] at hp
                | some ie =>
                  simp only [hie, Option.map_some, Option.some.injEq] at hp
                  subst hp
                  simp only [hit, hu, h2, hie, hzc']
                  exact hf
              · rename_i fields hu
                cases hm : fields.toList.mapM (fun f => (P.info? f.type).map fun i => (f.offset, i.size)) with
                | none => simp [hm] at hp
                | some places =>
                  simp only [hm, Option.map_some, Option.some.injEq] at hp
                  subst hp
                  simp only [hit, hu, h2, hm, hzc']
                  exact hf
              · cases hp
          · cases hz
        simp [OpOk, execOp, hop, run_build w t _ _ hbuilt, AV.den]
      · trivial
    · trivial
  · -- load
    rename_i t x
    split
    · rename_i key off hx
      split
      · rename_i ob hf
        split
        · rename_i v hv
          obtain ⟨hm, hk⟩ := findObj_mem hf
          obtain ⟨_, T, hT⟩ := hH.objs ob hm
          rw [hk] at hT
          have := run_load_obj hT hv
          simp [OpOk, execOp, hop, hρ1 _ _ hx, AV.den, Instr.loadAt, Instr.sureAddr, this]
        · trivial
      · trivial
    · trivial
  · -- store
    rename_i t x y
    split
    · rename_i key off v hx hy
      split
      · rename_i ob n hf hs
        split
        · rename_i hc
          obtain ⟨h1, h2, h3⟩ := hc
          obtain ⟨hm, hk⟩ := findObj_mem hf
          obtain ⟨hb, T, hT⟩ := hH.objs ob hm
          subst hk
          have hpl := plain_of_scalars h3
          intro hro
          refine ⟨_, ?_, put_objOk (off := off) (vs := v.cells) hH hm hro hT (lt_cells (hρ _ _ hy).2)⟩
          have hst := run_storeCells_at P (E ob.key) off T (AV.denL E v.cells) 0 (AV.denL E ob.cells).toArray w hT (by simp [denL_map]; omega) (by
            intro u hu
            rw [denL_map] at hu
            obtain ⟨c, hc, rfl⟩ := List.mem_map.1 hu
            exact scalar_one (List.all_eq_true.1 h3 c hc) E)
          have hsz : (AV.denL E v.cells).toArray.size = n := by simp [denL_map, h1]
          simp only [execOp, hop, hρ1 _ _ hx, hρ1 _ _ hy, AV.den, Instr.storeAt, Instr.sureAddr, storeVar, Sem.run_bind, Sem.run_pure, Result.andThen_ok, run_sizeA hs, cells_den hpl]
          rw [if_neg (by simp [hsz])]
          simp only [hst, Result.andThen_ok]
          simp [setFrom, denL_map]
        · trivial
      · trivial
    · trivial
  · -- nilCheck
    split
    · rename_i hx; simp [OpOk, execOp, hop, hρ1 _ _ hx, AV.den]
    · rename_i hx; simp [OpOk, execOp, hop, hρ1 _ _ hx, AV.den]
    · trivial
  · -- binOp
    rename_i op t x y yt
    split
    · rename_i k a k' b hx hy
      split
      · rename_i hk; subst hk
        exact intOp_sound op k a b t yt x y o hop (hρ1 _ _ hx) (hρ1 _ _ hy)
      · trivial
    · rename_i a b hx hy
      split
      · split
        · rename_i r hr
          have := eqA_sound (E := E) 9 t _ _ r hr 9991 w
          simp only [AV.den] at this
          simp [OpOk, execOp, hop, hρ1 _ _ hx, hρ1 _ _ hy, eqGuard, binOp, Op.equal, Op.maxDepth, this, AV.den]
        · trivial
      · split
        · rename_i r hr
          have := eqA_sound (E := E) 9 t _ _ r hr 9991 w
          simp only [AV.den] at this
          simp [OpOk, execOp, hop, hρ1 _ _ hx, hρ1 _ _ hy, eqGuard, binOp, Op.equal, Op.maxDepth, this, AV.den]
        · trivial
      · trivial
    · rename_i a b hx hy
      split
      · rename_i hg
        split
        · split
          · rename_i r hr
            have := eqA_sound (E := E) 9 t _ _ r hr 9991 w
            simp only [AV.den] at this
            simp [OpOk, execOp, hop, hρ1 _ _ hx, hρ1 _ _ hy, run_eqGuard_agg w _ _ _ _ _ _ hg, binOp, Op.equal, Op.maxDepth, this, AV.den]
          · trivial
        · split
          · rename_i r hr
            have := eqA_sound (E := E) 9 t _ _ r hr 9991 w
            simp only [AV.den] at this
            simp [OpOk, execOp, hop, hρ1 _ _ hx, hρ1 _ _ hy, run_eqGuard_agg w _ _ _ _ _ _ hg, binOp, Op.equal, Op.maxDepth, this, AV.den]
          · trivial
        · trivial
      · trivial
    · trivial
  · -- not
    split
    · rename_i hx; simp [OpOk, execOp, hop, hρ1 _ _ hx, AV.den, Op.unary]
    · trivial
  · -- neg
    split
    · rename_i hx; simp [OpOk, execOp, hop, hρ1 _ _ hx, AV.den, Op.unary, Op.intArith]
    · trivial
  · -- makeFunc
    split
    · rename_i a b ha hb
      have e1 := readL_sound hρ1 _ _ ha
      have e2 := readL_sound hρ1 _ _ hb
      have f1 : ∀ l : Array Operand, l.map e = (l.toList.map e).toArray := fun l => by apply Array.ext'; simp
      simp only [OpOk, execOp, hop, Instr.makeFunc, Sem.run_bind, Sem.run_pure, Result.andThen_ok, AV.den, ← e1, ← e2, ← f1]
    · trivial
  · -- fieldAddr
    rename_i s x f
    split
    · rename_i key off fd hx hf
      split
      · rename_i n hs
        unfold fieldOf at hf
        split at hf
        · rename_i fields hu
          simp [OpOk, execOp, hop, hρ1 _ _ hx, AV.den, Instr.fieldAt, run_underlying hu, hf, Instr.sureAddr, fieldPlace, run_sizeA hs, addr_add]
        · cases hf
      · trivial
    · trivial
  · -- field
    rename_i s x f
    split
    · rename_i cs fd hx hf
      split
      · rename_i v hv
        unfold fieldOf at hf
        split at hf
        · rename_i fields hu
          have := run_partA hv E w
          simp [OpOk, execOp, hop, hρ1 _ _ hx, AV.den, Instr.field, run_underlying hu, hf, asAgg, this]
        · cases hf
      · trivial
    · trivial
  · -- index
    split
    · rename_i cs k n len el hx hi hu
      split
      · rename_i sz hsz
        split
        · rename_i hb
          split
          · rename_i v hv
            simp only [OpOk, execOp, hop, Instr.index, hρ1 _ _ hx, hρ1 _ _ hi, AV.den, asIntOf, Sem.run_bind, Sem.run_pure, Result.andThen_ok, run_underlying hu, if_pos hb, run_sizeA hsz, run_partA hv E]
          · trivial
        · trivial
      · trivial
    · trivial
  · -- indexAddr
    split
    · rename_i key off k n len el hx hi hu
      split
      · rename_i sz hsz
        split
        · rename_i hb
          simp only [OpOk, execOp, hop, Instr.indexAt, hρ1 _ _ hx, hρ1 _ _ hi, AV.den, asIntOf, Instr.sureAddr, Sem.run_bind, Sem.run_pure, Result.andThen_ok, run_underlying hu, if_pos hb, run_sizeA hsz, addr_add]
        · trivial
      · trivial
    · trivial
  · -- extract
    split
    · rename_i vs hx
      split
      · rename_i v hv
        simp [OpOk, execOp, hop, hρ1 _ _ hx, AV.den, Instr.extract, denL_map, hv]
      · trivial
    · trivial
  · -- builtins
    rename_i b args at_
    split
    · rename_i vs hvs
      have e1 := readL_sound hρ1 _ _ hvs
      have e2 : (args.map e).toList = AV.denL E vs := by rw [Array.toList_map]; exact e1
      split
      · split
        · rename_i k a r
          split
          · rename_i v hv
            have := mm_sound (P := P) (E := E) (f := Builtin.min2) (fun k a b => rfl) k r a v hv w
            simp only [OpOk, execOp, hop, resolve, Sem.run_bind, Sem.run_pure, Result.andThen_ok, invoke, builtin, Builtin.min_, e2, AV.denL, AV.den, this]
          · trivial
        · trivial
      · split
        · rename_i k a r
          split
          · rename_i v hv
            have := mm_sound (P := P) (E := E) (f := Builtin.max2) (fun k a b => rfl) k r a v hv w
            simp only [OpOk, execOp, hop, resolve, Sem.run_bind, Sem.run_pure, Result.andThen_ok, invoke, builtin, Builtin.max_, e2, AV.denL, AV.den, this]
          · trivial
        · trivial
      · trivial
    · trivial
  · trivial

/-! ### keys stay below the bound -/
def R.lt (n : Nat) : R → Prop
  | .val v | .chk _ v => AV.lt n v
  | .new cs => AV.ltL n cs
  | .st _ _ cs => AV.ltL n cs
  | .bad => True
theorem absOp0_lt (hρ : ∀ x v, ρ x = some v → AV.lt H.next v) (hH : ∀ o ∈ H.objs, o.key < H.next ∧ AV.ltL H.next o.cells) (op : Op) : (absOp0 P ρ H op).lt H.next := by
  have hmem : ∀ key o, findObj key H.objs = some o → AV.ltL H.next o.cells := fun key o h => (hH o (findObj_mem h).1).2
  unfold absOp0
  split
  · split
    · rename_i v hv; exact hρ _ _ hv
    · trivial
  · split
    · rename_i v hv; exact hρ _ _ hv
    · trivial
  · split
    · rename_i z hz; exact lt_cells (lt_zeroA hz _)
    · trivial
  · split
    · rename_i v hv
      split
      · exact lt_cells (hρ _ _ hv)
      · trivial
    · trivial
  · split
    · rename_i z place ps hz hp hps
      split
      · rename_i cs hcs
        exact lt_fill ps _ _ hcs (readParts_all (Q := AV.lt H.next) hρ _ _ hps) (lt_cells (lt_zeroA hz _))
      · trivial
    · trivial
  · split
    · split
      · rename_i hf
        split
        · rename_i v hv; exact lt_partA hv (hmem _ _ hf)
        · trivial
      · trivial
    · trivial
  · split
    · rename_i hx hy
      split
      · split
        · exact lt_cells (hρ _ _ hy)
        · trivial
      · trivial
    · trivial
  · split
    · rename_i hx; exact hρ _ _ hx
    · rename_i hx; exact hρ _ _ hx
    · trivial
  · split
    · split
      · rename_i op _ _ _ _ _ _ _ _ _ _ _ _
        unfold intOp
        split <;> trivial
      · trivial
    · split
      · split <;> trivial
      · split <;> trivial
      · trivial
    · split
      · split
        · split <;> trivial
        · split <;> trivial
        · trivial
      · trivial
    · trivial
  · split <;> trivial
  · split <;> trivial
  · split
    · rename_i a b ha hb
      have h1 := readL_all (Q := AV.lt H.next) hρ _ _ ha
      have h2 := readL_all (Q := AV.lt H.next) hρ _ _ hb
      exact ⟨(ltL_all _ _).2 h1, (ltL_all _ _).2 h2⟩
    · trivial
  · split
    · rename_i hx hf
      split
      · have h := hρ _ _ hx
        exact h
      · trivial
    · trivial
  · split
    · rename_i hx hf
      split
      · rename_i v hv; exact lt_partA hv (hρ _ _ hx)
      · trivial
    · trivial
  · split
    · rename_i hx _ _
      split
      · split
        · split
          · rename_i v hv; exact lt_partA hv (hρ _ _ hx)
          · trivial
        · trivial
      · trivial
    · trivial
  · split
    · rename_i hx _ _
      split
      · split
        · have h := hρ _ _ hx
          exact h
        · trivial
      · trivial
    · trivial
  · split
    · rename_i hx
      split
      · rename_i v hv; exact (ltL_all _ _).1 (hρ _ _ hx) v (List.mem_of_getElem? hv)
      · trivial
    · trivial
  · split
    · split
      · split
        · split
          · rename_i v hv; obtain ⟨n, rfl⟩ := mm_int hv; trivial
          · trivial
        · trivial
      · split
        · split
          · rename_i v hv; obtain ⟨n, rfl⟩ := mm_int hv; trivial
          · trivial
        · trivial
      · trivial
    · trivial
  · trivial

/-! ### known operands -/
theorem opOk_strong {o : Oper} {r : R} (h : OpOk P ro E w0 H e w o r) : OpOk P ro E w0 H e w o r.strong := by
  cases r with
  | val v => show _ = _; rw [den_strong]; exact h
  | chk p v => intro hp; show _ = _; rw [den_strong]; exact h hp
  | _ => exact h
theorem lt_strongR {n : Nat} {r : R} (h : r.lt n) : r.strong.lt n := by
  cases r with
  | val v => exact lt_strong h
  | chk p v => exact lt_strong h
  | _ => exact h
theorem weakRead {Q : Value → AV → Prop} (hQ : ∀ u v, Q u v → Q u v.weak) (hρ : ∀ x v, ρ x = some v → Q (e x) v) : ∀ x v, (ρ x).map AV.weak = some v → Q (e x) v := by
  intro x v h
  cases hx : ρ x with
  | none => rw [hx] at h; cases h
  | some u => rw [hx] at h; cases h; exact hQ _ _ (hρ x u hx)
theorem absOp_sound (hρ : ∀ x v, ρ x = some v → e x = v.den E ∧ AV.lt H.next v) (hH : HeapOk ro E w0 H w) (o : Oper) : OpOk P ro E w0 H e w o (absOp P ρ H o.op) := by
  have hw : ∀ x v, (ρ x).map AV.weak = some v → e x = v.den E ∧ AV.lt H.next v :=
    weakRead (Q := fun u v => u = v.den E ∧ AV.lt H.next v) (fun u v h => ⟨by rw [den_weak]; exact h.1, all_weak v h.2⟩) hρ
  have h0 := absOp0_sound (P := P) (ρ := fun z => (ρ z).map AV.weak) hw hH o
  unfold absOp
  split
  · split
    · exact opOk_strong h0
    · exact h0
  · split
    · exact opOk_strong h0
    · exact h0
  · exact h0
  · exact absOp0_sound hρ hH o
theorem absOp_lt (hρ : ∀ x v, ρ x = some v → AV.lt H.next v) (hH : ∀ o ∈ H.objs, o.key < H.next ∧ AV.ltL H.next o.cells) (op : Op) : (absOp P ρ H op).lt H.next := by
  have hw : ∀ x v, (ρ x).map AV.weak = some v → AV.lt H.next v := fun x v h => by
    cases hx : ρ x with
    | none => rw [hx] at h; cases h
    | some u => rw [hx] at h; cases h; exact all_weak u (hρ x u hx)
  have h0 := fun op => absOp0_lt (P := P) (ρ := fun z => (ρ z).map AV.weak) hw hH op
  unfold absOp
  split
  · split
    · exact lt_strongR (h0 _)
    · exact h0 _
  · split
    · exact lt_strongR (h0 _)
    · exact h0 _
  · exact h0 _
  · exact absOp0_lt hρ hH _
end
end Go.Sx
