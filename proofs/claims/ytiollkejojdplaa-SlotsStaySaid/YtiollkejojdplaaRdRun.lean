/- RD, part 14: regions and code run; a function's contract out of its body. -/
import Derived.Test.YtiollkejojdplaaRdCode
import Derived.Deep.LoopGhost
import Derived.Sort.LoopGhostIn
import Derived.OrdersIn
import Derived.Test.YtiollkejojdplaaRdCel
namespace Go.Rd
open Go.RowKit Go.Proofs

section
variable {P : Program} {T : TypeId → Option TI} {w : World} {ι : Nat → Nat → Nat} {st : ASt} {a : Act}

/-- What an operation does to the machine. -/
def Ends (P : Program) (st : ASt) (a : Act) (w : World) (ι : Nat → Nat → Nat) (K : TV → ASt → Prop) (o : Oper) : Prop :=
  (∃ v val st' w' ι', K v st' ∧ (execOp a.eval o).run P w = .ok (.value val) w' ∧ Good st' a w' ι' ∧ Moves st st' w w' ι ι' ∧ RepT w' (Gd w' ι' st'.O) ι' st'.O v val) ∨
  (∃ st' w' ι', K .undef st' ∧ (execOp a.eval o).run P w = .ok .skip w' ∧ Good st' a w' ι' ∧ Moves st st' w w' ι ι') ∨
  (∃ f args, (execOp a.eval o).run P w = .ok (.enter f args) w ∧ Calls P f args w fun e w' => ∃ v val st' ι', K v st' ∧ e = .returned val ∧ Good st' a w' ι' ∧ Moves st st' w w' ι ι' ∧ RepT w' (Gd w' ι' st'.O) ι' st'.O v val)

theorem x1_sound (hT : TOk P T) {st : ASt} {a : Act} (h : Good st a w ι) {o : Oper} {d : Nat} {K : TV → ASt → Prop} (hk : x1 P T st d o.op K) : Ends P st a w ι K o := by
  have quiet : xq P T st o.op (fun v => K v st) → Ends P st a w ι K o := by
    intro hq
    obtain ⟨v, val, h1, h2, h3⟩ := xq_sound (B := fun w' => Below w.heap.size w w') hT h (fun _ _ h => h) hq
    exact .inl ⟨v, val, st, w, ι, h1, h3 w (Below.refl _ _), h, Moves.refl _ _ _, h2⟩
  have does : ∀ {s : Sem Value}, Does P st a w ι K s → (∀ w', (execOp a.eval o).run P w' = ((do pure (Next.value (← s))) : Sem Next).run P w') → Ends P st a w ι K o := by
    rintro s ⟨v, val, st', w', ι', h1, h2, h3, h4, h5⟩ hs
    exact .inl ⟨v, val, st', w', ι', h1, by rw [hs w]; simp [h2], h3, h4, h5⟩
  obtain ⟨dst, op, type, pos, after, guard⟩ := o
  cases op <;> simp only [x1] at hk
  case move x => exact quiet hk
  case assign x => exact quiet hk
  case pick c x y => exact quiet hk
  case load t x => exact quiet hk
  case binOp op t x y t2 => exact quiet hk
  case unOp op t x => exact quiet hk
  case convert s d x => exact quiet hk
  case makeFunc fn first caps => exact quiet hk
  case slice t x lo hi mx => exact quiet hk
  case fieldAddr s x f => exact quiet hk
  case field t x f => exact quiet hk
  case indexAddr t x i => exact quiet hk
  case index t x i => exact quiet hk
  case extract t ix => exact quiet hk
  case build t parts => exact quiet hk
  case box e x => exact does (eBox_sound h hk) (fun w' => rfl)
  case alloc e => exact does (eAlloc_sound hT h (old := .tuple #[]) hk) (fun w' => rfl)
  case makeSlice t l c => exact does (eMake_sound hT h hk) (fun w' => rfl)
  case buildSlice t len parts => exact does (eBuildSlice_sound hT h hk) (fun w' => rfl)
  case store t ad x =>
    obtain ⟨st', w', ι', h1, h2, h3, h4⟩ := eStore_sound hT h hk
    exact .inr (.inl ⟨st', w', ι', h1, by simp [execOp, h2], h3, h4⟩)
  case call c =>
    obtain ⟨callee, args, argTypes⟩ := c
    split at hk
    · rename_i b hcal
      simp only at hcal
      subst hcal
      unfold xBuiltin at hk
      split at hk
      · rename_i s x t t' hx ht
        obtain ⟨xs⟩ := args
        obtain ⟨ts⟩ := argTypes
        simp only at hx ht
        subst hx; subst ht
        rcases hk with ⟨rfl, hk⟩ | hk
        case inr =>
          refine does ?_ (fun w' => by simp [execOp, resolve, invoke, builtin]; rfl)
          obtain ⟨v, val, st', w', ι', h1, h2, h3, h4, h5⟩ := eAppendZ_sound (ty := type) hT h hk
          obtain ⟨s', k1, k2, k3, k4⟩ := wkK_use h3 h5 h1
          exact ⟨v, val, s', w', ι', k1, h2, k2, h4.trans k3, k4⟩
        refine does ?_ (fun w' => by simp [execOp, resolve, invoke, builtin]; rfl)
        obtain ⟨v, val, st', w', ι', h1, h2, h3, h4, h5⟩ : Does P st a w ι (wkK K) (Builtin.append_ #[t, t] type #[a.eval s, a.eval x]) := hk.elim (fun hk => eAppend_sound hT h hk) (fun hk => eAppendS_sound hT h hk)
        obtain ⟨s', k1, k2, k3, k4⟩ := wkK_use h3 h5 h1
        exact ⟨v, val, s', w', ι', k1, h2, k2, h4.trans k3, k4⟩
      · rename_i x y t t2 hx ht
        obtain ⟨xs⟩ := args
        obtain ⟨ts⟩ := argTypes
        simp only at hx ht
        subst hx; subst ht
        exact does (eCopy_sound (t2 := t2) (ty := type) hT h hk) (fun w' => by simp [execOp, resolve, invoke, builtin])
      · rename_i x t hx ht
        obtain ⟨xs⟩ := args
        obtain ⟨ts⟩ := argTypes
        simp only at hx ht
        subst hx; subst ht
        exact does (eClear_sound (ty := type) hT h hk) (fun w' => by simp [execOp, resolve, invoke, builtin])
      · exact quiet hk
    · rename_i f hcal
      simp only at hcal
      subst hcal
      rcases hk with hk | hk
      case inr =>
        obtain ⟨v, val, h1, h2, h3⟩ := acallX_sound h hk
        refine .inl ⟨v, val, st, w, ι, h1, ?_, h, Moves.refl _ _ _, h2⟩
        exact h3
      obtain ⟨g, capv, hfv, hent, hc⟩ := acall_sound h hk
      refine .inr (.inr ⟨g, _, ?_, hc.mono fun e w' ⟨v, val, st', ι', h1, h2, h3, h4, h5⟩ => by
        obtain ⟨s', k1, k2, k3, k4⟩ := wkK_use h3 h5 h1
        exact ⟨v, val, s', ι', k1, h2, k2, h4.trans k3, k4⟩⟩)
      have e1 : (args.map a.eval) = (args.toList.map a.eval).toArray := by rw [← Array.toList_map, Array.toArray_toList]
      simp only [execOp, resolve, hfv, Deferred.ofValue, Sem.run_bind, Sem.run_pure, Result.andThen_ok, invoke, ← e1]
      rw [hent]
      simp
    · exact hk.elim

/-- The two places in which code runs: a call's own, and a round of a loop over a function. -/
def Place (F : Fence) : Bool → Prop
  | false => F = Fence.wide
  | true => ∃ l, F = Fence.wide.inRound l
theorem Place.fn {F : Fence} {rd : Bool} (h : Place F rd) (f : FuncId) : F.fn f := by
  cases rd with
  | false => have h : F = Fence.wide := h; subst h; trivial
  | true => obtain ⟨l, rfl⟩ := (h : ∃ l, F = Fence.wide.inRound l); trivial
theorem Place.depth {F : Fence} {rd : Bool} (h : Place F rd) : F.depth = none := by
  cases rd with
  | false => have h : F = Fence.wide := h; subst h; rfl
  | true => obtain ⟨l, rfl⟩ := (h : ∃ l, F = Fence.wide.inRound l); rfl
theorem Place.calls {F : Fence} {rd : Bool} (h : Place F rd) {n : Nat} {f : FuncId} {args : Array Value} {R : Ending → World → Prop} (hc : Calls P f args w R) : CallsIn F n P f args w R := by
  cases rd with
  | false => have h : F = Fence.wide := h; subst h; exact callsIn_wide.2 hc
  | true => obtain ⟨l, rfl⟩ := (h : ∃ l, F = Fence.wide.inRound l); exact CallsIn.inRound l (callsIn_wide.2 hc)
theorem semAt_same {F : Fence} {rd : Bool} (h : Place F rd) (ρ : Operand → Value) {o : Oper} (ho : ∀ c, o.op ≠ .defer c) : o.semAt F.round ρ = execOp ρ o := by
  cases rd with
  | false => have h : F = Fence.wide := h; subst h; exact Oper.semAt_none ρ o
  | true => obtain ⟨l, rfl⟩ := (h : ∃ l, F = Fence.wide.inRound l); exact Oper.semAt_some l ρ o ho
theorem x1_nodefer {d : Nat} {op : Op} {K : TV → ASt → Prop} (h : x1 P T st d op K) : ∀ c, op ≠ .defer c := by
  rintro c rfl
  exact h

/-- One operation. -/
theorem x1_step (hT : TOk P T) {F : Fence} {rd : Bool} (hF : Place F rd) {m : Nat} {QQ : Exit → Act → World → Prop} {o : Oper} {d : Nat} {K : TV → ASt → Prop} {K2 : Act → World → Prop} (h : Good st a w ι) (hk : x1 P T st d o.op K)
    (next : ∀ {st2 : ASt} {w2 : World} {ι2 : Nat → Nat → Nat} {v : TV} {val : Value}, Good st2 a w2 ι2 → Moves st st2 w w2 ι ι2 → RepT w2 (Gd w2 ι2 st2.O) ι2 st2.O v val → K v st2 → K2 (a.put o.dst val) w2) : o.wpIn F m P a w K2 QQ := by
  refine ⟨fun f _ => hF.fn f, ?_⟩
  rw [semAt_same hF _ (x1_nodefer hk)]
  rcases x1_sound hT h hk with ⟨v, val, st2, w2, ι2, h1, h2, h3, h4, h5⟩ | ⟨st2, w2, ι2, h1, h2, h3, h4⟩ | ⟨f, args, h2, h3⟩
  · rw [h2]; exact next h3 h4 h5 h1
  · rw [h2]; exact next (v := .undef) h3 h4 trivial h1
  · rw [h2, Oper.uponIn_enter]
    refine ⟨fun hd => (by rw [hF.depth] at hd; cases hd), (hF.calls h3).mono ?_⟩
    rintro e w2 ⟨v, val, st2, ι2, k1, rfl, k3, k4, k5⟩
    exact next k3 k4 k5 k1

/-- A region in the order of its text. -/
theorem aops_sound (hT : TOk P T) {F : Fence} {rd : Bool} (hF : Place F rd) {m : Nat} {ops : List Oper} {Q : ASt → Prop} {QQ : Exit → Act → World → Prop} {st0 : ASt} {w0 : World} {ι0 : Nat → Nat → Nat} {a0 : Act}
    (hQ : ∀ a' w' st' ι', Q st' → Good st' a' w' ι' → Moves st0 st' w0 w' ι0 ι' → a'.defers = a0.defers → Kept (writesOps ops) a0 a' → QQ .normal a' w') :
    ∀ (l : List Oper), (∀ o ∈ l, o ∈ ops) → ∀ {st : ASt} {a : Act} {w : World} {ι : Nat → Nat → Nat}, Good st a w ι → Moves st0 st w0 w ι0 ι → a.defers = a0.defers → Kept (writesOps ops) a0 a → aops P T ops l Q st →
    wpListIn F m P ops.toArray QQ l a w
  | [], _, st, a, w, ι, h, hm, hd, hw, hk => hQ a w st ι hk h hm hd hw
  | o :: rest, hmem, st, a, w, ι, h, hm, hd, hw, hk => by
    unfold aops at hk
    obtain ⟨st1, g1, e1, e2, e3, hcase⟩ := wantK_sound h hk
    have next : ∀ {st2 : ASt} {w2 : World} {ι2 : Nat → Nat → Nat} {v : TV} {val : Value}, Good st2 a w2 ι2 → Moves st1 st2 w w2 ι ι2 → RepT w2 (Gd w2 ι2 st2.O) ι2 st2.O v val → st2.put o.dst v (aops P T ops rest Q) →
        wpListIn F m P ops.toArray QQ rest (a.put o.dst val) w2 := by
      intro st2 w2 ι2 v val hg hm2 hr hp
      obtain ⟨st3, k1, k2, k3, k4, k5⟩ := hg.put hr hp
      exact aops_sound hT hF hQ rest (fun o ho => hmem o (List.mem_cons_of_mem _ ho)) k2 (hm.trans ((hm2.of_O k3 k4 k5).of_O' e1 e2 e3)) (by rw [put_defers]; exact hd) (hw.put (writesOps_mem (hmem o (by simp))) _) k1
    unfold wpListIn
    rcases hcase with ⟨hwant, hk⟩ | ⟨hwant, hk⟩
    · rw [if_pos hwant]
      exact x1_step hT hF g1 hk next
    · rw [if_neg (by simp [hwant])]
      exact ⟨fun f _ => hF.fn f, next (v := .tup []) g1 (Moves.refl _ _ _) rep_skip hk⟩

/-! ### a region that draws its order, of quiet operations alone -/
theorem Good.below (h : Good st a w ι) {w' : World} (hw : Below w.heap.size w w') : Good st a w' ι ∧ Moves st st w w' ι ι := by
  have hst : Stays w w' (Gd w ι st.O) (Gd w' ι st.O) ι ι st.O st.O :=
    ⟨fun k hk => ⟨⟨Nat.lt_of_lt_of_le hk.1 hw.size, hk.2⟩, hw.block k hk.1⟩, fun l b o ho => ⟨o, ho, AObj.fits_refl o, rfl⟩, fun l b o c e ho hc => ⟨c, by rw [hw.block _ (h.lies.lt ho)]; exact hc, rfl⟩⟩
  exact ⟨⟨h.toFits.world hst ⟨fun l b o ho => (h.lies.obj l b o ho).stays hst (hw.block _ (h.lies.lt ho)), h.lies.inj⟩, h.sup, h.lev⟩,
    ⟨rfl, rfl, hw.os, hw.tape, hw.output, hw.size, fun k hk _ => hw.block k hk, fun l b o ho => .inl ⟨l, b, o, ho, rfl⟩, fun l b o _ ho => ⟨o, ho, AObj.fits_refl o, rfl⟩, fun l b o c e _ ho hc => ⟨c, by rw [hw.block _ (h.lies.lt ho)]; exact hc, rfl⟩⟩⟩

theorem pure_rep {w' : World} {O : Store} {u : AV} {v : Value} (h : RepA w (Gd w ι O) ι O u v) (hp : pureA u = true) (hw : Below w.heap.size w w') : RepA w' (Gd w' (fun _ _ => 0) fun _ _ => none) (fun _ _ => 0) (fun _ _ => none) u v := by
  have hG : ∀ k, Gd w ι O k → Gd w' (fun _ _ => 0) (fun _ _ => none) k ∧ w'.heap[k]? = w.heap[k]? := fun k hk => ⟨⟨Nat.lt_of_lt_of_le hk.1 hw.size, fun ⟨_, _, _, ho, _⟩ => by cases ho⟩, hw.block k hk.1⟩
  cases u with
  | s x =>
    cases x with
    | pv p => exact RepP.mono h hG
    | _ => simp [pureA, pureS] at hp
  | agg xs =>
    obtain ⟨cs, rfl, hl, hc⟩ := h
    refine ⟨cs, rfl, hl, fun j y hy => ?_⟩
    obtain ⟨u, hu, hr⟩ := hc j y hy
    have := List.all_eq_true.1 hp y (List.mem_of_getElem? hy)
    cases y with
    | pv p => exact ⟨u, hu, RepP.mono hr hG⟩
    | _ => simp [pureS] at this
  | pel esz es i j =>
    obtain ⟨blk, off, hr, rfl⟩ := h
    exact ⟨blk, off, hr.mono hG, rfl⟩
/-- The call in whatever world that has come by new memory alone. -/
theorem acallQ_sound (h : Good st a w ι) {o : Oper} {K : TV → Prop} (hk : acallQ P st o.op K) :
    ∃ u : Value, u.oneCell' = true ∧ K (lit u) ∧ ∀ w', Below w.heap.size w w' → o.quietAt P a (fun w' => Below w.heap.size w w') w' u := by
  obtain ⟨dst, op, type, pos, after, guard⟩ := o
  simp only at hk
  unfold acallQ at hk
  split at hk
  · rename_i c
    split at hk
    · rename_i fop hcal
      obtain ⟨callee, args, argTypes⟩ := c
      simp only at hcal
      subst hcal
      obtain ⟨f, avs, u, h1, h2, h3, ⟨L, hent, hA⟩, h5, hk⟩ := hk
      refine ⟨u, h5, hk, fun w' hw' => ?_⟩
      have hfv := h.ev fop
      rw [h1] at hfv
      obtain ⟨hfv, _⟩ := hfv
      obtain ⟨q1, q2⟩ := argsOf_rep (w := w) (G := Gd w ι st.O) (ι := ι) (O := st.O) (vals := args.toList.map a.eval) h2 (by simp) (fun i y u hy hu => by
        rw [List.getElem?_map] at hy hu
        cases hxi : args.toList[i]? with
        | none => simp [hxi] at hy
        | some x =>
          simp only [hxi, Option.map_some, Option.some.injEq] at hy hu
          subst hy; subst hu
          exact h.ev x)
      have hc := hA w' (fun _ _ => 0) (args.toList.map a.eval) (fun _ _ _ => rfl) (fun _ _ _ _ h => (by cases h)) ⟨fun _ _ _ h => (by cases h), fun _ _ _ _ _ _ h => (by cases h)⟩ q1.symm
        (fun i y u hy hu => pure_rep (q2 i y u hy hu) (List.all_eq_true.1 h3 y (List.mem_of_getElem? hy)) hw')
      have e1 : (args.map a.eval) = (args.toList.map a.eval).toArray := by rw [← Array.toList_map, Array.toArray_toList]
      have hrun : (execOp a.eval ⟨dst, .call ⟨.value fop, args, argTypes⟩, type, pos, after, guard⟩).run P w' = .ok (.enter f (args.toList.map a.eval).toArray) w' := by
        simp only [execOp, resolve, hfv, Deferred.ofValue, Sem.run_bind, Sem.run_pure, Result.andThen_ok, invoke, ← e1, List.map_nil]
        rw [show (#[] ++ args.map a.eval ++ (#[] : Array Value)) = args.map a.eval by simp]
        rw [hent]
      unfold Oper.quietAt
      rw [hrun]
      refine ⟨rfl, hc.mono ?_⟩
      rintro e w2 ⟨r, S', v, ι', ⟨rfl, rfl⟩, rfl, _, _, _, hm, hr⟩
      have := (RepP.lit_inv hr).1
      subst this
      exact ⟨rfl, hw'.trans ⟨hm.os, hm.tape, hm.output, hm.size, fun k hk => hm.keep k (Nat.lt_of_lt_of_le hk hw'.size) (fun ⟨_, _, _, ho, _⟩ => by cases ho)⟩⟩
    · exact hk.elim
  · exact hk.elim

theorem qops_sound (hT : TOk P T) {ops : List Oper} {Q : ASt → Prop} {a0 : Act} : ∀ (l : List Oper), (∀ o ∈ l, o ∈ ops) → ∀ {st : ASt} {a : Act}, Good st a w ι → a.defers = a0.defers → Kept (writesOps ops) a0 a → qops P T ops l Q st →
    wpQuiet P ops.toArray (fun w' => Below w.heap.size w w') (fun a' => a'.defers = a0.defers ∧ Kept (writesOps ops) a0 a' ∧ ∃ st', Q st' ∧ Good st' a' w ι ∧ st'.L = st.L ∧ st'.n = st.n ∧ st'.O = st.O) l a
  | [], _, st, a, h, hd, hw, hk => ⟨hd, hw, st, hk, h, rfl, rfl, rfl⟩
  | o :: rest, hmem, st, a, h, hd, hw, hk => by
    unfold qops at hk
    obtain ⟨st1, g1, e1, e2, e3, hcase⟩ := wantK_sound h hk
    have next : ∀ {v : TV} {val : Value}, RepT w (Gd w ι st1.O) ι st1.O v val → st1.put o.dst v (qops P T ops rest Q) →
        wpQuiet P ops.toArray (fun w' => Below w.heap.size w w') (fun a' => a'.defers = a0.defers ∧ Kept (writesOps ops) a0 a' ∧ ∃ st', Q st' ∧ Good st' a' w ι ∧ st'.L = st.L ∧ st'.n = st.n ∧ st'.O = st.O) rest (a.put o.dst val) := by
      intro v val hr hp
      obtain ⟨st3, k1, k2, k3, k4, k5⟩ := g1.put hr hp
      have ih := qops_sound hT rest (fun o ho => hmem o (List.mem_cons_of_mem _ ho)) k2 (by rw [put_defers]; exact hd) (hw.put (writesOps_mem (hmem o (by simp))) _) k1
      rw [k3, k4, k5, e1, e2, e3] at ih
      exact ih
    unfold wpQuiet
    rcases hcase with ⟨hw1, hk⟩ | ⟨hw1, hk⟩
    · rw [if_pos hw1]
      unfold qstep at hk
      split at hk
      · obtain ⟨v, val, h1, h2, h3⟩ := xq_sound (B := fun w' => Below w.heap.size w w') hT g1 (fun _ _ h => h) hk
        refine ⟨val, fun w' hw' => ?_, next h2 h1⟩
        unfold Oper.quietAt
        rw [h3 w' hw']
        exact ⟨rfl, rfl⟩
      · obtain ⟨u, hu, h1, h3⟩ := acallQ_sound g1 hk
        refine ⟨u, fun w' hw' => h3 w' hw', next (v := lit u) (RepP.lit u hu) h1⟩
    · rw [if_neg (by simp [hw1])]
      exact next (v := .tup []) rep_skip hk

/-! ### a region that draws its order, of whatever operations -/
/-- Whichever order: 'pure' operations (that look at no memory) may be taken first (not in a round). -/
def dany (P : Program) (T : TypeId → Option TI) (rd : Bool) (ops : List Oper) : Nat → Array Bool → (ASt → Prop) → ASt → Prop
  | 0, listed, Q, st => Region.ready .any ops.toArray listed = [] ∧ Q st
  | fuel + 1, listed, Q, st =>
    (Region.ready .any ops.toArray listed = [] ∧ Q st) ∨
    (rd = false ∧ ∃ i o, ops[i]? = some o ∧ isLoad o.op = false ∧ Region.noSelect ops.toArray = true ∧ Region.free .any ops.toArray listed i = true ∧ (Region.ready .any ops.toArray listed).contains i = true ∧
      wantK ops st o (fun st => xq P T st o.op fun v => st.put o.dst v (dany P T rd ops fuel (listed.setIfInBounds i true) Q)) (fun st => st.put o.dst (.tup []) (dany P T rd ops fuel (listed.setIfInBounds i true) Q))) ∨
    (∃ rs, Region.ready .any ops.toArray listed = rs ∧ rs ≠ [] ∧ ∀ i ∈ rs, ∃ o, ops[i]? = some o ∧
      wantK ops st o (fun st => x1 P T st (o.dst.getD st.n) o.op fun v st' => st'.put o.dst v (dany P T rd ops fuel (listed.setIfInBounds i true) Q)) (fun st => st.put o.dst (.tup []) (dany P T rd ops fuel (listed.setIfInBounds i true) Q)))

theorem dany_sound (hT : TOk P T) {ops : List Oper} {Q : ASt → Prop} {st0 : ASt} {w0 : World} {ι0 : Nat → Nat → Nat} {a0 : Act} : ∀ (fuel : Nat) (listed : Array Bool) {st : ASt} {a : Act} {w : World} {ι : Nat → Nat → Nat}, Good st a w ι → Moves st0 st w0 w ι0 ι → a.defers = a0.defers → Kept (writesOps ops) a0 a → dany P T false ops fuel listed Q st →
    wpAny P .any ops.toArray (fun e a' w' => e = .normal ∧ a'.defers = a0.defers ∧ Kept (writesOps ops) a0 a' ∧ ∃ st' ι', Q st' ∧ Good st' a' w' ι' ∧ Moves st0 st' w0 w' ι0 ι') fuel listed a w
  | 0, listed, st, a, w, ι, h, hm0, hd, hw, hk => ⟨hk.1, rfl, hd, hw, st, ι, hk.2, h, hm0⟩
  | fuel + 1, listed, st, a, w, ι, h, hm0, hd, hw0, hk => by
    unfold dany at hk
    rcases hk with ⟨h1, h2⟩ | ⟨_, i, o, hi, hl, hs, hf, hr, hk⟩ | ⟨rs, hr, hne, hk⟩
    · exact wpAny_done h1 ⟨rfl, hd, hw0, st, ι, h2, h, hm0⟩ _
    · obtain ⟨st1, g1, e1, e2, e3, hcase⟩ := wantK_sound h hk
      have hi' : ops.toArray[i]? = some o := by simpa using hi
      have hmem : o ∈ ops := List.mem_of_getElem? hi
      have next : ∀ {v : TV} {val : Value}, RepT w (Gd w ι st1.O) ι st1.O v val → st1.put o.dst v (dany P T false ops fuel (listed.setIfInBounds i true) Q) →
          wpAny P .any ops.toArray (fun e a' w' => e = .normal ∧ a'.defers = a0.defers ∧ Kept (writesOps ops) a0 a' ∧ ∃ st' ι', Q st' ∧ Good st' a' w' ι' ∧ Moves st0 st' w0 w' ι0 ι') fuel (listed.setIfInBounds i true) (a.put o.dst val) w := by
        intro v val hrp hp
        obtain ⟨st3, k1, k2, k3, k4, k5⟩ := g1.put hrp hp
        exact dany_sound hT fuel _ k2 (hm0.trans ((Moves.refl st w ι).of_O (k3.trans e1) (k4.trans e2) (k5.trans e3))) (by rw [put_defers]; exact hd) (hw0.put (writesOps_mem hmem) _) k1
      rcases hcase with ⟨hw, hk⟩ | ⟨hw, hk⟩
      · obtain ⟨v, val, h1, h2, h3⟩ := xq_sound (B := fun _ => True) hT g1 (fun e => by rw [hl] at e; cases e) hk
        exact wpAny_take hi' hs hf hr (fun c a w hq => by cases hq.1) (.inl ⟨hw, fun w' => h3 w' trivial⟩) (next h2 h1)
      · exact wpAny_take hi' hs hf hr (fun c a w hq => by cases hq.1) (.inr ⟨hw, rfl⟩) (next (v := .tup []) rep_skip hk)
    · refine wpAny_all hr hne fun i hmem => ?_
      obtain ⟨o, hi, hk⟩ := hk i hmem
      obtain ⟨st1, g1, e1, e2, e3, hcase⟩ := wantK_sound h hk
      have hi' : ops.toArray[i]? = some o := by simpa using hi
      have hmo : o ∈ ops := List.mem_of_getElem? hi
      have next : ∀ {st2 : ASt} {w2 : World} {ι2 : Nat → Nat → Nat} {v : TV} {val : Value}, Good st2 a w2 ι2 → Moves st1 st2 w w2 ι ι2 → RepT w2 (Gd w2 ι2 st2.O) ι2 st2.O v val → st2.put o.dst v (dany P T false ops fuel (listed.setIfInBounds i true) Q) →
          wpAny P .any ops.toArray (fun e a' w' => e = .normal ∧ a'.defers = a0.defers ∧ Kept (writesOps ops) a0 a' ∧ ∃ st' ι', Q st' ∧ Good st' a' w' ι' ∧ Moves st0 st' w0 w' ι0 ι') fuel (listed.setIfInBounds i true) (a.put o.dst val) w2 := by
        intro st2 w2 ι2 v val hg hm hrp hp
        obtain ⟨st3, k1, k2, k3, k4, k5⟩ := hg.put hrp hp
        have hmv : Moves st st3 w w2 ι ι2 := (hm.of_O k3 k4 k5).of_O' e1 e2 e3
        exact dany_sound hT fuel _ k2 (hm0.trans hmv) (by rw [put_defers]; exact hd) (hw0.put (writesOps_mem hmo) _) k1
      unfold wpOp
      simp only [hi']
      rcases hcase with ⟨hw, hk⟩ | ⟨hw, hk⟩
      · rw [if_pos hw]
        refine .inl ?_
        unfold Oper.wp
        rcases x1_sound hT g1 hk with ⟨v, val, st2, w2, ι2, h1, h2, h3, h4, h5⟩ | ⟨st2, w2, ι2, h1, h2, h3, h4⟩ | ⟨f, args, h2, h3⟩
        · rw [h2]; exact next h3 h4 h5 h1
        · rw [h2]; exact next (v := .undef) h3 h4 trivial h1
        · rw [h2]
          refine h3.mono ?_
          rintro e w2 ⟨v, val, st2, ι2, k1, rfl, k3, k4, k5⟩
          exact next k3 k4 k5 k1
      · rw [if_neg (by simp [hw])]
        exact next (v := .tup []) g1 (Moves.refl _ _ _) rep_skip hk

/-- .. in a round. -/
theorem danyR_sound (hT : TOk P T) {F : Fence} (hF : Place F true) {m : Nat} {ops : List Oper} {Q : ASt → Prop} {QQ : Exit → Act → World → Prop} {st0 : ASt} {w0 : World} {ι0 : Nat → Nat → Nat} {a0 : Act}
    (hQ : ∀ a' w' st' ι', Q st' → Good st' a' w' ι' → Moves st0 st' w0 w' ι0 ι' → a'.defers = a0.defers → Kept (writesOps ops) a0 a' → QQ .normal a' w') :
    ∀ (fuel : Nat) (listed : Array Bool) {st : ASt} {a : Act} {w : World} {ι : Nat → Nat → Nat}, Good st a w ι → Moves st0 st w0 w ι0 ι → a.defers = a0.defers → Kept (writesOps ops) a0 a → dany P T true ops fuel listed Q st →
    wpAnyIn F m P .any ops.toArray QQ fuel listed a w
  | 0, listed, st, a, w, ι, h, hm0, hd, hw, hk => ⟨hk.1, hQ a w st ι hk.2 h hm0 hd hw⟩
  | fuel + 1, listed, st, a, w, ι, h, hm0, hd, hw0, hk => by
    unfold dany at hk
    rcases hk with ⟨h1, h2⟩ | ⟨hrd, _⟩ | ⟨rs, hr, hne, hk⟩
    · exact wpAnyIn_done h1 (hQ a w st ι h2 h hm0 hd hw0) _
    · cases hrd
    · refine wpAnyIn_all hr hne fun i hmem => ?_
      obtain ⟨o, hi, hk⟩ := hk i hmem
      obtain ⟨st1, g1, e1, e2, e3, hcase⟩ := wantK_sound h hk
      have hi' : ops.toArray[i]? = some o := by simpa using hi
      have hmo : o ∈ ops := List.mem_of_getElem? hi
      have next : ∀ {st2 : ASt} {w2 : World} {ι2 : Nat → Nat → Nat} {v : TV} {val : Value}, Good st2 a w2 ι2 → Moves st1 st2 w w2 ι ι2 → RepT w2 (Gd w2 ι2 st2.O) ι2 st2.O v val → st2.put o.dst v (dany P T true ops fuel (listed.setIfInBounds i true) Q) →
          wpAnyIn F m P .any ops.toArray QQ fuel (listed.setIfInBounds i true) (a.put o.dst val) w2 := by
        intro st2 w2 ι2 v val hg hm hrp hp
        obtain ⟨st3, k1, k2, k3, k4, k5⟩ := hg.put hrp hp
        have hmv : Moves st st3 w w2 ι ι2 := (hm.of_O k3 k4 k5).of_O' e1 e2 e3
        exact danyR_sound hT hF hQ fuel _ k2 (hm0.trans hmv) (by rw [put_defers]; exact hd) (hw0.put (writesOps_mem hmo) _) k1
      unfold wpOpIn
      simp only [hi']
      rcases hcase with ⟨hw, hk⟩ | ⟨hw, hk⟩
      · rw [if_pos hw]
        exact x1_step hT hF g1 hk next
      · rw [if_neg (by simp [hw])]
        exact ⟨fun f _ => hF.fn f, next (v := .tup []) g1 (Moves.refl _ _ _) rep_skip hk⟩

/-! ### a loop over a function -/
/-- An assignment to a loop's left sides: moves alone. -/
def movesL : List Oper → Option (List (Tmp × Tmp))
  | [] => some []
  | o :: r => match o.dst, o.op, o.guard, movesL r with
    | some d, .assign (.tmp s), none, some q => some ((d, s) :: q)
    | some d, .move (.tmp s), none, some q => some ((d, s) :: q)
    | _, _, _, _ => none
def movesOf : Code → Option (List (Tmp × Tmp))
  | .skip => some []
  | .region _ ops false => movesL ops.toList
  | .seq x y => match movesOf x, movesOf y with
    | some p, some q => some (p ++ q)
    | _, _ => none
  | _ => none
def mvTm (st : ASt) : List (Tmp × Tmp) → ASt
  | [] => st
  | (d, s) :: r => mvTm (st.set d (st.get s)) r
def mvAct (a : Act) : List (Tmp × Tmp) → Act
  | [] => a
  | (d, s) :: r => mvAct (a.put (some d) (a.tmps.getD s undef)) r
def psTm (st : ASt) : List Tmp → List AV → ASt
  | p :: ps, x :: xs => psTm (st.set p (.a x)) ps xs
  | _, _ => st

/-- WHAT IS KNOWN OF AN ITERATOR: it hands out just these, one behind the other, while the memory that is frozen stays so. -/
def Iter (P : Program) (f : FuncId) (css : List (List PV)) (xs : List (List AV)) : Prop :=
  Enters P f ∧ ∀ (w : World) (G : Nat → Prop) (vs : List Value), (∀ k, G k → k < w.heap.size) → RepP w G (.clo f css) (.func (.func f) #[] vs.toArray) →
    ∃ ys : List (List Value), ys.length = xs.length ∧
      (∀ (k : Nat) (x : List AV) (y : List Value), xs[k]? = some x → ys[k]? = some y → y.length = x.length ∧ ∀ (j : Nat) (u : AV) (v : Value), x[j]? = some u → y[j]? = some v → RepA w G (fun _ _ => 0) (fun _ _ => none) u v) ∧
      ∀ (l : Nat) (J : Nat → World → Prop) (Jx : World → Prop) (W : World), Below w.heap.size w W → AbidesFrom W.heap.size J → AbidesFrom W.heap.size (fun (_ : Unit) W => Jx W) →
        (∀ (k : Nat) (y : List Value) (W1 : World), ys[k]? = some y → J k W1 → YieldAt Fence.wide 1 P l y.toArray W1 fun e W' =>
          (e = .returned (.bool true) ∧ J (k + 1) W' ∧ ∀ b, G b → W'.heap[b]? = W1.heap[b]?) ∨ (e = .returned (.bool false) ∧ Jx W')) →
        J 0 W → Calls P f (#[.func (.yield l) #[] #[]] ++ vs.toArray) W fun e W' => (∃ v, e = .returned v) ∧ (J ys.length W' ∨ Jx W')

def outK (Q : Exit → ASt → Prop) (J : Store → Prop) (st : ASt) (e : Exit) (O : Store) : Prop :=
  match e with
  | .normal => J O
  | .ret => Q .ret { st with O := O }
  | .exit id => Q (.exit id) { st with O := O }
  | _ => False
/-- Behind a round: what the loop's own temporaries hold, they held ahead of it. -/
def roundK (Q : Exit → ASt → Prop) (J : Store → Prop) (st : ASt) (W : Nat → Bool) (e : Exit) (s : ASt) : Prop :=
  ∃ s', (s' = s ∨ Wk s s') ∧ (∀ t, st.get t = .undef ∨ (W t = false ∧ s'.get t = st.get t)) ∧ outK Q J st e s'.O
def writesR (ps : List Tmp) (mv : List (Tmp × Tmp)) (body : Code) (t : Nat) : Bool := ps.any (Nat.beq t) || mv.any (fun p => Nat.beq t p.1) || writesB body t

/-! ### code -/
def kseq (K : ASt → Prop) (Q : Exit → ASt → Prop) : Exit → ASt → Prop
  | .normal, st => ∃ s', (s' = st ∨ Wk st s') ∧ K s'
  | e, st => Q e st
def kblock (id : Nat) (Q : Exit → ASt → Prop) : Exit → ASt → Prop
  | .exit id', st => if id' = id then Q .normal st else Q (.exit id') st
  | e, st => Q e st
def kcond (c : TV) (x y : Prop) : Prop :=
  match c with
  | .a (.s (.pv (.lit (.bool b)))) => (b = true → x) ∧ (b = false → y)
  | _ => False

/-- What is owed of code, from a state: a condition on pure data. 'rd': in a round of a loop over a function. -/
def awp (P : Program) (T : TypeId → Option TI) (rd : Bool) : Code → (Exit → ASt → Prop) → ASt → Prop
  | .skip, Q, st => Q .normal st
  | .region _ ops draw, Q, st => if draw = true then (rd = false ∧ Region.lexB .any ops = true ∧ qops P T ops.toList ops.toList (Q .normal) st) ∨ dany P T rd ops.toList ops.size (Array.replicate ops.size false) (Q .normal) st else aops P T ops.toList ops.toList (Q .normal) st
  | .seq x y, Q, st => ∃ J : ASt → Prop, (∀ s, J s → awp P T rd y Q s) ∧ awp P T rd x (kseq J Q) st
  | .cond c x y, Q, st => kcond (st.ev c) (awp P T rd x Q st) (awp P T rd y Q st)
  | .block id c, Q, st => awp P T rd c (kblock id Q) st
  | .loop c, Q, st => ∃ (I : Nat → ASt → Prop) (n0 : Nat) (s0 : ASt), (s0 = st ∨ Wk st s0) ∧ I n0 s0 ∧ ∀ n s, I n s → awp P T rd c (kseq (fun s' => ∃ n', n' < n ∧ I n' s') Q) s
  | .exit id, Q, st => Q (.exit id) st
  | .ret, Q, st => Q .ret st
  | .rangeFunc g ps assign body, Q, st0 => rd = false ∧ ∃ (st : ASt) (f : FuncId) (css : List (List PV)) (xs : List (List AV)) (J : Nat → Store → Prop) (mv : List (Tmp × Tmp)), (st = st0 ∨ Wk st0 st) ∧ st0.ev g = .a (.s (.pv (.clo f css))) ∧ Iter P f css xs ∧
      movesOf assign = some mv ∧ (∀ x ∈ xs, x.length = ps.size) ∧ (∀ p ∈ ps.toList, p < st.n) ∧ (∀ p ∈ mv, p.1 < st.n) ∧ J 0 st.O ∧
      (∀ (k : Nat) (x : List AV) (O : Store), xs[k]? = some x → J k O → awp P T true body (roundK Q (J (k + 1)) st (writesR ps.toList mv body)) (mvTm (psTm { st with O := O } ps.toList x) mv)) ∧
      ∀ O, J xs.length O → Q .normal { st with O := O }
  | _, _, _ => False
end
end Go.Rd
