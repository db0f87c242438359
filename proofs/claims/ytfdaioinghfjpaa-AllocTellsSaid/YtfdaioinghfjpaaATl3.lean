/- The law AllocTells of the given program, for every input. (part 3 of 10) -/
import Derived.Test.YtfdaioinghfjpaaATl2
import Derived.Deep.LoopGhost
import Derived.Sort.LoopGhostIn
import Derived.OrdersIn
namespace Go.Rd
open Go.RowKit Go.Proofs
section
variable {P : Program} {T : TypeId → Option TI} {w : World} {ι : Nat → Nat → Nat} {st : ASt} {a : Act}
def Ends (P : Program) (st : ASt) (a : Act) (w : World) (ι : Nat → Nat → Nat) (K : TV → ASt → Prop) (o : Oper) : Prop :=
  (∃ v val st' w' ι', K v st' ∧ (execOp a.eval o).run P w = .ok (.value val) w' ∧ Good st' a w' ι' ∧ Moves st st' w w' ι ι' ∧ RepT w' (Gd w' ι' st'.O) ι' st'.O v val) ∨
  (∃ st' w' ι', K .undef st' ∧ (execOp a.eval o).run P w = .ok .skip w' ∧ Good st' a w' ι' ∧ Moves st st' w w' ι ι') ∨
  (∃ f args, (execOp a.eval o).run P w = .ok (.enter f args) w ∧ Calls P f args w fun e w' => ∃ v val st' ι', K v st' ∧ e = .returned val ∧ Good st' a w' ι' ∧ Moves st st' w w' ι ι' ∧ RepT w' (Gd w' ι' st'.O) ι' st'.O v val)
theorem Good.below (h : Good st a w ι) {w' : World} (hw : Below w.heap.size w w') : Good st a w' ι ∧ Moves st st w w' ι ι := by
  have hst : Stays w w' (Gd w ι st.O) (Gd w' ι st.O) ι ι st.O st.O :=
    ⟨fun k hk => ⟨⟨Nat.lt_of_lt_of_le hk.1 hw.size, hk.2⟩, hw.block k hk.1⟩, fun l b o ho => ⟨o, ho, AObj.fits_refl o, rfl⟩, fun l b o c e ho hc => ⟨c, by rw [hw.block _ (h.lies.lt ho)]; exact hc, rfl⟩⟩
  exact ⟨⟨h.toFits.world hst ⟨fun l b o ho => (h.lies.obj l b o ho).stays hst (hw.block _ (h.lies.lt ho)), h.lies.inj⟩, h.sup, h.lev⟩,
    ⟨rfl, rfl, hw.os, hw.tape, hw.output, hw.size, fun k hk _ => hw.block k hk, fun l b o ho => .inl ⟨l, b, o, ho, rfl⟩, fun l b o _ ho => ⟨o, ho, AObj.fits_refl o, rfl⟩, fun l b o c e _ ho hc => ⟨c, by rw [hw.block _ (h.lies.lt ho)]; exact hc, rfl⟩⟩⟩
theorem qNan_sound {st : ASt} {a : Act} (h : Good st a w ι) {op : BinOp} {t : TypeId} {x y : Operand} {vx vy : Value} {X Y : TV} {K : TV → ASt → Prop}
    (hX : RepT w (Gd w ι st.O) ι st.O X vx) (hY : RepT w (Gd w ι st.O) ι st.O Y vy) (hk : qNan T op t X Y fun v => K v st) : Does P st a w ι K (do eqGuard op t x y vx vy; binOp op t vx vy) := by
  unfold qNan at hk
  split at hk
  · rename_i k a1 k' b1
    obtain ⟨rfl, _⟩ := RepP.lit_inv hX
    obtain ⟨rfl, _⟩ := RepP.lit_inv hY
    obtain ⟨_, rfl, hop, hn, hk⟩ := hk
    have hbe : Below w.heap.size w w.drew := (Below.refl _ _).drew
    obtain ⟨g1, g2⟩ := h.below hbe
    have hrun : (do eqGuard op t x y (.float k a1) (.float k b1); binOp op t (.float k a1) (.float k b1)).run P w = .ok (.float k ((Question.nanBits k a1 b1).cut (w.tape w.drawn (.nanBits k a1 b1)))) w.drew := by
      rcases hop with rfl | rfl | rfl | rfl <;> (simp only [floatBits] at hn; simp [eqGuard, binOp, Op.floatArith, hn, Question.forced])
    exact ⟨_, _, st, w.drew, ι, hk _ ⟨_, _, _, rfl⟩, hrun, g1, g2, RepP.lit _ rfl⟩
  · exact hk.elim
theorem x1_sound (hT : TOk P T) {st : ASt} {a : Act} (h : Good st a w ι) {o : Oper} {d : Nat} {K : TV → ASt → Prop} (hk : x1 P T st d o.op K) : Ends P st a w ι K o := by
  have quiet : xq P T st o.op (fun v => K v st) → Ends P st a w ι K o := by
    intro hq
    obtain ⟨v, val, h1, h2, h3⟩ := xq_sound (B := fun w' => Below w.heap.size w w') hT h (fun _ _ h => h) hq
    exact .inl ⟨v, val, st, w, ι, h1, h3 w (Below.refl _ _), h, Moves.refl _ _ _, h2⟩
  have does : ∀ {s : Sem Value}, Does P st a w ι K s → (∀ w', (execOp a.eval o).run P w' = ((do pure (Next.value (← s))) : Sem Next).run P w') → Ends P st a w ι K o := by
    rintro s ⟨v, val, st', w', ι', h1, h2, h3, h4, h5⟩ hs
    exact .inl ⟨v, val, st', w', ι', h1, by rw [hs w]; simp [h2], h3, h4, h5⟩
  obtain ⟨dst, op, type, pos, after, guard⟩ := o
  cases op <;> simp only [x1] at hk
  case move x => exact quiet hk
  case assign x => exact quiet hk
  case pick c x y => exact quiet hk
  case load t x => exact quiet hk
  case binOp op t x y t2 =>
    rcases hk with hk | hk
    · exact quiet hk
    · exact does (qNan_sound h (h.ev x) (h.ev y) hk) (fun w' => rfl)
  case unOp op t x => exact quiet hk
  case convert s d x => exact quiet hk
  case makeFunc fn first caps => exact quiet hk
  case slice t x lo hi mx => exact quiet hk
  case fieldAddr s x f => exact quiet hk
  case field t x f => exact quiet hk
  case indexAddr t x i => exact quiet hk
  case index t x i => exact quiet hk
  case extract t ix => exact quiet hk
  case build t parts => exact quiet hk
  case box e x => exact does (eBox_sound h hk) (fun w' => rfl)
  case alloc e => exact does (eAlloc_sound hT h (old := .tuple #[]) hk) (fun w' => rfl)
  case makeSlice t l c => exact does (eMake_sound hT h hk) (fun w' => rfl)
  case buildSlice t len parts => exact does (eBuildSlice_sound hT h hk) (fun w' => rfl)
  case store t ad x =>
    obtain ⟨st', w', ι', h1, h2, h3, h4⟩ := eStore_sound hT h hk
    exact .inr (.inl ⟨st', w', ι', h1, by simp [execOp, h2], h3, h4⟩)
  case call c =>
    obtain ⟨callee, args, argTypes⟩ := c
    split at hk
    · rename_i b hcal
      simp only at hcal
      subst hcal
      unfold xBuiltin at hk
      split at hk
      · rename_i s x t t' hx ht
        obtain ⟨xs⟩ := args
        obtain ⟨ts⟩ := argTypes
        simp only at hx ht
        subst hx; subst ht
        rcases hk with ⟨rfl, hk⟩ | hk
        case inr =>
          refine does ?_ (fun w' => by simp [execOp, resolve, invoke, builtin]; rfl)
          obtain ⟨v, val, st', w', ι', h1, h2, h3, h4, h5⟩ := eAppendZ_sound (ty := type) hT h hk
          obtain ⟨s', k1, k2, k3, k4⟩ := wkK_use h3 h5 h1
          exact ⟨v, val, s', w', ι', k1, h2, k2, h4.trans k3, k4⟩
        refine does ?_ (fun w' => by simp [execOp, resolve, invoke, builtin]; rfl)
        obtain ⟨v, val, st', w', ι', h1, h2, h3, h4, h5⟩ : Does P st a w ι (wkK K) (Builtin.append_ #[t, t] type #[a.eval s, a.eval x]) := hk.elim (fun hk => eAppend_sound hT h hk) (fun hk => eAppendS_sound hT h hk)
        obtain ⟨s', k1, k2, k3, k4⟩ := wkK_use h3 h5 h1
        exact ⟨v, val, s', w', ι', k1, h2, k2, h4.trans k3, k4⟩
      · rename_i x y t t2 hx ht
        obtain ⟨xs⟩ := args
        obtain ⟨ts⟩ := argTypes
        simp only at hx ht
        subst hx; subst ht
        exact does (eCopy_sound (t2 := t2) (ty := type) hT h hk) (fun w' => by simp [execOp, resolve, invoke, builtin])
      · rename_i x t hx ht
        obtain ⟨xs⟩ := args
        obtain ⟨ts⟩ := argTypes
        simp only at hx ht
        subst hx; subst ht
        exact does (eClear_sound (ty := type) hT h hk) (fun w' => by simp [execOp, resolve, invoke, builtin])
      · exact quiet hk
    · rename_i f hcal
      simp only at hcal
      subst hcal
      rcases hk with hk | hk
      case inr =>
        obtain ⟨v, val, h1, h2, h3⟩ := acallX_sound h hk
        refine .inl ⟨v, val, st, w, ι, h1, ?_, h, Moves.refl _ _ _, h2⟩
        exact h3
      obtain ⟨g, capv, hfv, hent, hc⟩ := acall_sound h hk
      refine .inr (.inr ⟨g, _, ?_, hc.mono fun e w' ⟨v, val, st', ι', h1, h2, h3, h4, h5⟩ => by
        obtain ⟨s', k1, k2, k3, k4⟩ := wkK_use h3 h5 h1
        exact ⟨v, val, s', ι', k1, h2, k2, h4.trans k3, k4⟩⟩)
      have e1 : (args.map a.eval) = (args.toList.map a.eval).toArray := by rw [← Array.toList_map, Array.toArray_toList]
      simp only [execOp, resolve, hfv, Deferred.ofValue, Sem.run_bind, Sem.run_pure, Result.andThen_ok, invoke, ← e1]
      rw [hent]
      simp
    · exact hk.elim
def Place (F : Fence) : Bool → Prop
  | false => F = Fence.wide
  | true => ∃ l, F = Fence.wide.inRound l
theorem Place.fn {F : Fence} {rd : Bool} (h : Place F rd) (f : FuncId) : F.fn f := by
  cases rd with
  | false => have h : F = Fence.wide := h; subst h; trivial
  | true => obtain ⟨l, rfl⟩ := (h : ∃ l, F = Fence.wide.inRound l); trivial
theorem Place.depth {F : Fence} {rd : Bool} (h : Place F rd) : F.depth = none := by
  cases rd with
  | false => have h : F = Fence.wide := h; subst h; rfl
  | true => obtain ⟨l, rfl⟩ := (h : ∃ l, F = Fence.wide.inRound l); rfl
theorem Place.calls {F : Fence} {rd : Bool} (h : Place F rd) {n : Nat} {f : FuncId} {args : Array Value} {R : Ending → World → Prop} (hc : Calls P f args w R) : CallsIn F n P f args w R := by
  cases rd with
  | false => have h : F = Fence.wide := h; subst h; exact callsIn_wide.2 hc
  | true => obtain ⟨l, rfl⟩ := (h : ∃ l, F = Fence.wide.inRound l); exact CallsIn.inRound l (callsIn_wide.2 hc)
theorem semAt_same {F : Fence} {rd : Bool} (h : Place F rd) (ρ : Operand → Value) {o : Oper} (ho : ∀ c, o.op ≠ .defer c) : o.semAt F.round ρ = execOp ρ o := by
  cases rd with
  | false => have h : F = Fence.wide := h; subst h; exact Oper.semAt_none ρ o
  | true => obtain ⟨l, rfl⟩ := (h : ∃ l, F = Fence.wide.inRound l); exact Oper.semAt_some l ρ o ho
theorem x1_nodefer {d : Nat} {op : Op} {K : TV → ASt → Prop} (h : x1 P T st d op K) : ∀ c, op ≠ .defer c := by
  rintro c rfl
  exact h
theorem x1_step (hT : TOk P T) {F : Fence} {rd : Bool} (hF : Place F rd) {m : Nat} {QQ : Exit → Act → World → Prop} {o : Oper} {d : Nat} {K : TV → ASt → Prop} {K2 : Act → World → Prop} (h : Good st a w ι) (hk : x1 P T st d o.op K)
    (next : ∀ {st2 : ASt} {w2 : World} {ι2 : Nat → Nat → Nat} {v : TV} {val : Value}, Good st2 a w2 ι2 → Moves st st2 w w2 ι ι2 → RepT w2 (Gd w2 ι2 st2.O) ι2 st2.O v val → K v st2 → K2 (a.put o.dst val) w2) : o.wpIn F m P a w K2 QQ := by
  refine ⟨fun f _ => hF.fn f, ?_⟩
  rw [semAt_same hF _ (x1_nodefer hk)]
  rcases x1_sound hT h hk with ⟨v, val, st2, w2, ι2, h1, h2, h3, h4, h5⟩ | ⟨st2, w2, ι2, h1, h2, h3, h4⟩ | ⟨f, args, h2, h3⟩
  · rw [h2]; exact next h3 h4 h5 h1
  · rw [h2]; exact next (v := .undef) h3 h4 trivial h1
  · rw [h2, Oper.uponIn_enter]
    refine ⟨fun hd => (by rw [hF.depth] at hd; cases hd), (hF.calls h3).mono ?_⟩
    rintro e w2 ⟨v, val, st2, ι2, k1, rfl, k3, k4, k5⟩
    exact next k3 k4 k5 k1
theorem aops_sound (hT : TOk P T) {F : Fence} {rd : Bool} (hF : Place F rd) {m : Nat} {ops : List Oper} {Q : ASt → Prop} {QQ : Exit → Act → World → Prop} {st0 : ASt} {w0 : World} {ι0 : Nat → Nat → Nat} {a0 : Act}
    (hQ : ∀ a' w' st' ι', Q st' → Good st' a' w' ι' → Moves st0 st' w0 w' ι0 ι' → a'.defers = a0.defers → Kept (writesOps ops) a0 a' → QQ .normal a' w') :
    ∀ (l : List Oper), (∀ o ∈ l, o ∈ ops) → ∀ {st : ASt} {a : Act} {w : World} {ι : Nat → Nat → Nat}, Good st a w ι → Moves st0 st w0 w ι0 ι → a.defers = a0.defers → Kept (writesOps ops) a0 a → aops P T ops l Q st →
    wpListIn F m P ops.toArray QQ l a w
  | [], _, st, a, w, ι, h, hm, hd, hw, hk => hQ a w st ι hk h hm hd hw
  | o :: rest, hmem, st, a, w, ι, h, hm, hd, hw, hk => by
    unfold aops at hk
    obtain ⟨st1, g1, e1, e2, e3, hcase⟩ := wantK_sound h hk
    have next : ∀ {st2 : ASt} {w2 : World} {ι2 : Nat → Nat → Nat} {v : TV} {val : Value}, Good st2 a w2 ι2 → Moves st1 st2 w w2 ι ι2 → RepT w2 (Gd w2 ι2 st2.O) ι2 st2.O v val → st2.put o.dst v (aops P T ops rest Q) →
        wpListIn F m P ops.toArray QQ rest (a.put o.dst val) w2 := by
      intro st2 w2 ι2 v val hg hm2 hr hp
      obtain ⟨st3, k1, k2, k3, k4, k5⟩ := hg.put hr hp
      exact aops_sound hT hF hQ rest (fun o ho => hmem o (List.mem_cons_of_mem _ ho)) k2 (hm.trans ((hm2.of_O k3 k4 k5).of_O' e1 e2 e3)) (by rw [put_defers]; exact hd) (hw.put (writesOps_mem (hmem o (by simp))) _) k1
    unfold wpListIn
    rcases hcase with ⟨hwant, hk⟩ | ⟨hwant, hk⟩
    · rw [if_pos hwant]
      exact x1_step hT hF g1 hk next
    · rw [if_neg (by simp [hwant])]
      exact ⟨fun f _ => hF.fn f, next (v := .tup []) g1 (Moves.refl _ _ _) rep_skip hk⟩
theorem pure_rep {w' : World} {O : Store} {u : AV} {v : Value} (h : RepA w (Gd w ι O) ι O u v) (hp : pureA u = true) (hw : Below w.heap.size w w') : RepA w' (Gd w' (fun _ _ => 0) fun _ _ => none) (fun _ _ => 0) (fun _ _ => none) u v := by
  have hG : ∀ k, Gd w ι O k → Gd w' (fun _ _ => 0) (fun _ _ => none) k ∧ w'.heap[k]? = w.heap[k]? := fun k hk => ⟨⟨Nat.lt_of_lt_of_le hk.1 hw.size, fun ⟨_, _, _, ho, _⟩ => by cases ho⟩, hw.block k hk.1⟩
  cases u with
  | s x =>
    cases x with
    | pv p => exact RepP.mono h hG
    | _ => simp [pureA, pureS] at hp
  | agg xs =>
    obtain ⟨cs, rfl, hl, hc⟩ := h
    refine ⟨cs, rfl, hl, fun j y hy => ?_⟩
    obtain ⟨u, hu, hr⟩ := hc j y hy
    have := List.all_eq_true.1 hp y (List.mem_of_getElem? hy)
    cases y with
    | pv p => exact ⟨u, hu, RepP.mono hr hG⟩
    | _ => simp [pureS] at this
  | pel esz es i j =>
    obtain ⟨blk, off, hr, rfl⟩ := h
    exact ⟨blk, off, hr.mono hG, rfl⟩
theorem acallQ_sound (h : Good st a w ι) {o : Oper} {K : TV → Prop} (hk : acallQ P st o.op K) :
    ∃ u : Value, u.oneCell' = true ∧ K (lit u) ∧ ∀ w', Below w.heap.size w w' → o.quietAt P a (fun w' => Below w.heap.size w w') w' u := by
  obtain ⟨dst, op, type, pos, after, guard⟩ := o
  simp only at hk
  unfold acallQ at hk
  split at hk
  · rename_i c
    split at hk
    · rename_i fop hcal
      obtain ⟨callee, args, argTypes⟩ := c
      simp only at hcal
      subst hcal
      obtain ⟨f, avs, u, h1, h2, h3, ⟨L, hent, hA⟩, h5, hk⟩ := hk
      refine ⟨u, h5, hk, fun w' hw' => ?_⟩
      have hfv := h.ev fop
      rw [h1] at hfv
      obtain ⟨hfv, _⟩ := hfv
      obtain ⟨q1, q2⟩ := argsOf_rep (w := w) (G := Gd w ι st.O) (ι := ι) (O := st.O) (vals := args.toList.map a.eval) h2 (by simp) (fun i y u hy hu => by
        rw [List.getElem?_map] at hy hu
        cases hxi : args.toList[i]? with
        | none => simp [hxi] at hy
        | some x =>
          simp only [hxi, Option.map_some, Option.some.injEq] at hy hu
          subst hy; subst hu
          exact h.ev x)
      have hc := hA w' (fun _ _ => 0) (args.toList.map a.eval) (fun _ _ _ => rfl) (fun _ _ _ _ h => (by cases h)) ⟨fun _ _ _ h => (by cases h), fun _ _ _ _ _ _ h => (by cases h)⟩ q1.symm
        (fun i y u hy hu => pure_rep (q2 i y u hy hu) (List.all_eq_true.1 h3 y (List.mem_of_getElem? hy)) hw')
      have e1 : (args.map a.eval) = (args.toList.map a.eval).toArray := by rw [← Array.toList_map, Array.toArray_toList]
      have hrun : (execOp a.eval ⟨dst, .call ⟨.value fop, args, argTypes⟩, type, pos, after, guard⟩).run P w' = .ok (.enter f (args.toList.map a.eval).toArray) w' := by
        simp only [execOp, resolve, hfv, Deferred.ofValue, Sem.run_bind, Sem.run_pure, Result.andThen_ok, invoke, ← e1, List.map_nil]
        rw [show (#[] ++ args.map a.eval ++ (#[] : Array Value)) = args.map a.eval by simp]
        rw [hent]
      unfold Oper.quietAt
      rw [hrun]
      refine ⟨rfl, hc.mono ?_⟩
      rintro e w2 ⟨r, S', v, ι', ⟨rfl, rfl⟩, rfl, _, _, _, hm, hr⟩
      have := (RepP.lit_inv hr).1
      subst this
      exact ⟨rfl, hw'.trans ⟨hm.os, hm.tape, hm.output, hm.size, fun k hk => hm.keep k (Nat.lt_of_lt_of_le hk hw'.size) (fun ⟨_, _, _, ho, _⟩ => by cases ho)⟩⟩
    · exact hk.elim
  · exact hk.elim
theorem qops_sound (hT : TOk P T) {ops : List Oper} {Q : ASt → Prop} {a0 : Act} : ∀ (l : List Oper), (∀ o ∈ l, o ∈ ops) → ∀ {st : ASt} {a : Act}, Good st a w ι → a.defers = a0.defers → Kept (writesOps ops) a0 a → qops P T ops l Q st →
    wpQuiet P ops.toArray (fun w' => Below w.heap.size w w') (fun a' => a'.defers = a0.defers ∧ Kept (writesOps ops) a0 a' ∧ ∃ st', Q st' ∧ Good st' a' w ι ∧ st'.L = st.L ∧ st'.n = st.n ∧ st'.O = st.O) l a
  | [], _, st, a, h, hd, hw, hk => ⟨hd, hw, st, hk, h, rfl, rfl, rfl⟩
  | o :: rest, hmem, st, a, h, hd, hw, hk => by
    unfold qops at hk
    obtain ⟨st1, g1, e1, e2, e3, hcase⟩ := wantK_sound h hk
    have next : ∀ {v : TV} {val : Value}, RepT w (Gd w ι st1.O) ι st1.O v val → st1.put o.dst v (qops P T ops rest Q) →
        wpQuiet P ops.toArray (fun w' => Below w.heap.size w w') (fun a' => a'.defers = a0.defers ∧ Kept (writesOps ops) a0 a' ∧ ∃ st', Q st' ∧ Good st' a' w ι ∧ st'.L = st.L ∧ st'.n = st.n ∧ st'.O = st.O) rest (a.put o.dst val) := by
      intro v val hr hp
      obtain ⟨st3, k1, k2, k3, k4, k5⟩ := g1.put hr hp
      have ih := qops_sound hT rest (fun o ho => hmem o (List.mem_cons_of_mem _ ho)) k2 (by rw [put_defers]; exact hd) (hw.put (writesOps_mem (hmem o (by simp))) _) k1
      rw [k3, k4, k5, e1, e2, e3] at ih
      exact ih
    unfold wpQuiet
    rcases hcase with ⟨hw1, hk⟩ | ⟨hw1, hk⟩
    · rw [if_pos hw1]
      unfold qstep at hk
      split at hk
      · obtain ⟨v, val, h1, h2, h3⟩ := xq_sound (B := fun w' => Below w.heap.size w w') hT g1 (fun _ _ h => h) hk
        refine ⟨val, fun w' hw' => ?_, next h2 h1⟩
        unfold Oper.quietAt
        rw [h3 w' hw']
        exact ⟨rfl, rfl⟩
      · obtain ⟨u, hu, h1, h3⟩ := acallQ_sound g1 hk
        refine ⟨u, fun w' hw' => h3 w' hw', next (v := lit u) (RepP.lit u hu) h1⟩
    · rw [if_neg (by simp [hw1])]
      exact next (v := .tup []) rep_skip hk
def dany (P : Program) (T : TypeId → Option TI) (rd : Bool) (ops : List Oper) : Nat → Array Bool → (ASt → Prop) → ASt → Prop
  | 0, listed, Q, st => Region.ready .any ops.toArray listed = [] ∧ Q st
  | fuel + 1, listed, Q, st =>
    (Region.ready .any ops.toArray listed = [] ∧ Q st) ∨
    (rd = false ∧ ∃ i o, ops[i]? = some o ∧ isLoad o.op = false ∧ Region.noSelect ops.toArray = true ∧ Region.free .any ops.toArray listed i = true ∧ (Region.ready .any ops.toArray listed).contains i = true ∧
      wantK ops st o (fun st => xq P T st o.op fun v => st.put o.dst v (dany P T rd ops fuel (listed.setIfInBounds i true) Q)) (fun st => st.put o.dst (.tup []) (dany P T rd ops fuel (listed.setIfInBounds i true) Q))) ∨
    (∃ rs, Region.ready .any ops.toArray listed = rs ∧ rs ≠ [] ∧ ∀ i ∈ rs, ∃ o, ops[i]? = some o ∧
      wantK ops st o (fun st => x1 P T st (o.dst.getD st.n) o.op fun v st' => st'.put o.dst v (dany P T rd ops fuel (listed.setIfInBounds i true) Q)) (fun st => st.put o.dst (.tup []) (dany P T rd ops fuel (listed.setIfInBounds i true) Q)))
theorem dany_sound (hT : TOk P T) {ops : List Oper} {Q : ASt → Prop} {st0 : ASt} {w0 : World} {ι0 : Nat → Nat → Nat} {a0 : Act} : ∀ (fuel : Nat) (listed : Array Bool) {st : ASt} {a : Act} {w : World} {ι : Nat → Nat → Nat}, Good st a w ι → Moves st0 st w0 w ι0 ι → a.defers = a0.defers → Kept (writesOps ops) a0 a → dany P T false ops fuel listed Q st →
    wpAny P .any ops.toArray (fun e a' w' => e = .normal ∧ a'.defers = a0.defers ∧ Kept (writesOps ops) a0 a' ∧ ∃ st' ι', Q st' ∧ Good st' a' w' ι' ∧ Moves st0 st' w0 w' ι0 ι') fuel listed a w
  | 0, listed, st, a, w, ι, h, hm0, hd, hw, hk => ⟨hk.1, rfl, hd, hw, st, ι, hk.2, h, hm0⟩
  | fuel + 1, listed, st, a, w, ι, h, hm0, hd, hw0, hk => by
    unfold dany at hk
    rcases hk with ⟨h1, h2⟩ | ⟨_, i, o, hi, hl, hs, hf, hr, hk⟩ | ⟨rs, hr, hne, hk⟩
    · exact wpAny_done h1 ⟨rfl, hd, hw0, st, ι, h2, h, hm0⟩ _
    · obtain ⟨st1, g1, e1, e2, e3, hcase⟩ := wantK_sound h hk
      have hi' : ops.toArray[i]? = some o := by simpa using hi
      have hmem : o ∈ ops := List.mem_of_getElem? hi
      have next : ∀ {v : TV} {val : Value}, RepT w (Gd w ι st1.O) ι st1.O v val → st1.put o.dst v (dany P T false ops fuel (listed.setIfInBounds i true) Q) →
          wpAny P .any ops.toArray (fun e a' w' => e = .normal ∧ a'.defers = a0.defers ∧ Kept (writesOps ops) a0 a' ∧ ∃ st' ι', Q st' ∧ Good st' a' w' ι' ∧ Moves st0 st' w0 w' ι0 ι') fuel (listed.setIfInBounds i true) (a.put o.dst val) w := by
        intro v val hrp hp
        obtain ⟨st3, k1, k2, k3, k4, k5⟩ := g1.put hrp hp
        exact dany_sound hT fuel _ k2 (hm0.trans ((Moves.refl st w ι).of_O (k3.trans e1) (k4.trans e2) (k5.trans e3))) (by rw [put_defers]; exact hd) (hw0.put (writesOps_mem hmem) _) k1
      rcases hcase with ⟨hw, hk⟩ | ⟨hw, hk⟩
      · obtain ⟨v, val, h1, h2, h3⟩ := xq_sound (B := fun _ => True) hT g1 (fun e => by rw [hl] at e; cases e) hk
        exact wpAny_take hi' hs hf hr (fun c a w hq => by cases hq.1) (.inl ⟨hw, fun w' => h3 w' trivial⟩) (next h2 h1)
      · exact wpAny_take hi' hs hf hr (fun c a w hq => by cases hq.1) (.inr ⟨hw, rfl⟩) (next (v := .tup []) rep_skip hk)
    · refine wpAny_all hr hne fun i hmem => ?_
      obtain ⟨o, hi, hk⟩ := hk i hmem
      obtain ⟨st1, g1, e1, e2, e3, hcase⟩ := wantK_sound h hk
      have hi' : ops.toArray[i]? = some o := by simpa using hi
      have hmo : o ∈ ops := List.mem_of_getElem? hi
      have next : ∀ {st2 : ASt} {w2 : World} {ι2 : Nat → Nat → Nat} {v : TV} {val : Value}, Good st2 a w2 ι2 → Moves st1 st2 w w2 ι ι2 → RepT w2 (Gd w2 ι2 st2.O) ι2 st2.O v val → st2.put o.dst v (dany P T false ops fuel (listed.setIfInBounds i true) Q) →
          wpAny P .any ops.toArray (fun e a' w' => e = .normal ∧ a'.defers = a0.defers ∧ Kept (writesOps ops) a0 a' ∧ ∃ st' ι', Q st' ∧ Good st' a' w' ι' ∧ Moves st0 st' w0 w' ι0 ι') fuel (listed.setIfInBounds i true) (a.put o.dst val) w2 := by
        intro st2 w2 ι2 v val hg hm hrp hp
        obtain ⟨st3, k1, k2, k3, k4, k5⟩ := hg.put hrp hp
        have hmv : Moves st st3 w w2 ι ι2 := (hm.of_O k3 k4 k5).of_O' e1 e2 e3
        exact dany_sound hT fuel _ k2 (hm0.trans hmv) (by rw [put_defers]; exact hd) (hw0.put (writesOps_mem hmo) _) k1
      unfold wpOp
      simp only [hi']
      rcases hcase with ⟨hw, hk⟩ | ⟨hw, hk⟩
      · rw [if_pos hw]
        refine .inl ?_
        unfold Oper.wp
        rcases x1_sound hT g1 hk with ⟨v, val, st2, w2, ι2, h1, h2, h3, h4, h5⟩ | ⟨st2, w2, ι2, h1, h2, h3, h4⟩ | ⟨f, args, h2, h3⟩
        · rw [h2]; exact next h3 h4 h5 h1
        · rw [h2]; exact next (v := .undef) h3 h4 trivial h1
        · rw [h2]
          refine h3.mono ?_
          rintro e w2 ⟨v, val, st2, ι2, k1, rfl, k3, k4, k5⟩
          exact next k3 k4 k5 k1
      · rw [if_neg (by simp [hw])]
        exact next (v := .tup []) g1 (Moves.refl _ _ _) rep_skip hk
theorem danyR_sound (hT : TOk P T) {F : Fence} (hF : Place F true) {m : Nat} {ops : List Oper} {Q : ASt → Prop} {QQ : Exit → Act → World → Prop} {st0 : ASt} {w0 : World} {ι0 : Nat → Nat → Nat} {a0 : Act}
    (hQ : ∀ a' w' st' ι', Q st' → Good st' a' w' ι' → Moves st0 st' w0 w' ι0 ι' → a'.defers = a0.defers → Kept (writesOps ops) a0 a' → QQ .normal a' w') :
    ∀ (fuel : Nat) (listed : Array Bool) {st : ASt} {a : Act} {w : World} {ι : Nat → Nat → Nat}, Good st a w ι → Moves st0 st w0 w ι0 ι → a.defers = a0.defers → Kept (writesOps ops) a0 a → dany P T true ops fuel listed Q st →
    wpAnyIn F m P .any ops.toArray QQ fuel listed a w
  | 0, listed, st, a, w, ι, h, hm0, hd, hw, hk => ⟨hk.1, hQ a w st ι hk.2 h hm0 hd hw⟩
  | fuel + 1, listed, st, a, w, ι, h, hm0, hd, hw0, hk => by
    unfold dany at hk
    rcases hk with ⟨h1, h2⟩ | ⟨hrd, _⟩ | ⟨rs, hr, hne, hk⟩
    · exact wpAnyIn_done h1 (hQ a w st ι h2 h hm0 hd hw0) _
    · cases hrd
    · refine wpAnyIn_all hr hne fun i hmem => ?_
      obtain ⟨o, hi, hk⟩ := hk i hmem
      obtain ⟨st1, g1, e1, e2, e3, hcase⟩ := wantK_sound h hk
      have hi' : ops.toArray[i]? = some o := by simpa using hi
      have hmo : o ∈ ops := List.mem_of_getElem? hi
      have next : ∀ {st2 : ASt} {w2 : World} {ι2 : Nat → Nat → Nat} {v : TV} {val : Value}, Good st2 a w2 ι2 → Moves st1 st2 w w2 ι ι2 → RepT w2 (Gd w2 ι2 st2.O) ι2 st2.O v val → st2.put o.dst v (dany P T true ops fuel (listed.setIfInBounds i true) Q) →
          wpAnyIn F m P .any ops.toArray QQ fuel (listed.setIfInBounds i true) (a.put o.dst val) w2 := by
        intro st2 w2 ι2 v val hg hm hrp hp
        obtain ⟨st3, k1, k2, k3, k4, k5⟩ := hg.put hrp hp
        have hmv : Moves st st3 w w2 ι ι2 := (hm.of_O k3 k4 k5).of_O' e1 e2 e3
        exact danyR_sound hT hF hQ fuel _ k2 (hm0.trans hmv) (by rw [put_defers]; exact hd) (hw0.put (writesOps_mem hmo) _) k1
      unfold wpOpIn
      simp only [hi']
      rcases hcase with ⟨hw, hk⟩ | ⟨hw, hk⟩
      · rw [if_pos hw]
        exact x1_step hT hF g1 hk next
      · rw [if_neg (by simp [hw])]
        exact ⟨fun f _ => hF.fn f, next (v := .tup []) g1 (Moves.refl _ _ _) rep_skip hk⟩
def movesL : List Oper → Option (List (Tmp × Tmp))
  | [] => some []
  | o :: r => match o.dst, o.op, o.guard, movesL r with
    | some d, .assign (.tmp s), none, some q => some ((d, s) :: q)
    | some d, .move (.tmp s), none, some q => some ((d, s) :: q)
    | _, _, _, _ => none
def movesOf : Code → Option (List (Tmp × Tmp))
  | .skip => some []
  | .region _ ops false => movesL ops.toList
  | .seq x y => match movesOf x, movesOf y with
    | some p, some q => some (p ++ q)
    | _, _ => none
  | _ => none
def mvTm (st : ASt) : List (Tmp × Tmp) → ASt
  | [] => st
  | (d, s) :: r => mvTm (st.set d (st.get s)) r
def mvAct (a : Act) : List (Tmp × Tmp) → Act
  | [] => a
  | (d, s) :: r => mvAct (a.put (some d) (a.tmps.getD s undef)) r
def psTm (st : ASt) : List Tmp → List AV → ASt
  | p :: ps, x :: xs => psTm (st.set p (.a x)) ps xs
  | _, _ => st
def Iter (P : Program) (f : FuncId) (css : List (List PV)) (xs : List (List AV)) : Prop :=
  Enters P f ∧ ∀ (w : World) (G : Nat → Prop) (vs : List Value), (∀ k, G k → k < w.heap.size) → RepP w G (.clo f css) (.func (.func f) #[] vs.toArray) →
    ∃ ys : List (List Value), ys.length = xs.length ∧
      (∀ (k : Nat) (x : List AV) (y : List Value), xs[k]? = some x → ys[k]? = some y → y.length = x.length ∧ ∀ (j : Nat) (u : AV) (v : Value), x[j]? = some u → y[j]? = some v → RepA w G (fun _ _ => 0) (fun _ _ => none) u v) ∧
      ∀ (l : Nat) (J : Nat → World → Prop) (Jx : World → Prop) (W : World), Below w.heap.size w W → AbidesFrom W.heap.size J → AbidesFrom W.heap.size (fun (_ : Unit) W => Jx W) →
        (∀ (k : Nat) (y : List Value) (W1 : World), ys[k]? = some y → J k W1 → YieldAt Fence.wide 1 P l y.toArray W1 fun e W' =>
          (e = .returned (.bool true) ∧ J (k + 1) W' ∧ ∀ b, G b → W'.heap[b]? = W1.heap[b]?) ∨ (e = .returned (.bool false) ∧ Jx W')) →
        J 0 W → Calls P f (#[.func (.yield l) #[] #[]] ++ vs.toArray) W fun e W' => (∃ v, e = .returned v) ∧ (J ys.length W' ∨ Jx W')
def outK (Q : Exit → ASt → Prop) (J : Store → Prop) (st : ASt) (e : Exit) (O : Store) : Prop :=
  match e with
  | .normal => J O
  | .ret => Q .ret { st with O := O }
  | .exit id => Q (.exit id) { st with O := O }
  | _ => False
def roundK (Q : Exit → ASt → Prop) (J : Store → Prop) (st : ASt) (W : Nat → Bool) (e : Exit) (s : ASt) : Prop :=
  ∃ s', (s' = s ∨ Wk s s') ∧ (∀ t, st.get t = .undef ∨ (W t = false ∧ s'.get t = st.get t)) ∧ outK Q J st e s'.O
def writesR (ps : List Tmp) (mv : List (Tmp × Tmp)) (body : Code) (t : Nat) : Bool := ps.any (Nat.beq t) || mv.any (fun p => Nat.beq t p.1) || writesB body t
def kseq (K : ASt → Prop) (Q : Exit → ASt → Prop) : Exit → ASt → Prop
  | .normal, st => ∃ s', (s' = st ∨ Wk st s') ∧ K s'
  | e, st => Q e st
def kblock (id : Nat) (Q : Exit → ASt → Prop) : Exit → ASt → Prop
  | .exit id', st => if id' = id then Q .normal st else Q (.exit id') st
  | e, st => Q e st
def kcond (c : TV) (x y : Prop) : Prop :=
  match c with
  | .a (.s (.pv (.lit (.bool b)))) => (b = true → x) ∧ (b = false → y)
  | _ => False
def awp (P : Program) (T : TypeId → Option TI) (rd : Bool) : Code → (Exit → ASt → Prop) → ASt → Prop
  | .skip, Q, st => Q .normal st
  | .region _ ops draw, Q, st => if draw = true then (rd = false ∧ Region.lexB .any ops = true ∧ qops P T ops.toList ops.toList (Q .normal) st) ∨ dany P T rd ops.toList ops.size (Array.replicate ops.size false) (Q .normal) st else aops P T ops.toList ops.toList (Q .normal) st
  | .seq x y, Q, st => ∃ J : ASt → Prop, (∀ s, J s → awp P T rd y Q s) ∧ awp P T rd x (kseq J Q) st
  | .cond c x y, Q, st => kcond (st.ev c) (awp P T rd x Q st) (awp P T rd y Q st)
  | .block id c, Q, st => awp P T rd c (kblock id Q) st
  | .loop c, Q, st => ∃ (I : Nat → ASt → Prop) (n0 : Nat) (s0 : ASt), (s0 = st ∨ Wk st s0) ∧ I n0 s0 ∧ ∀ n s, I n s → awp P T rd c (kseq (fun s' => ∃ n', n' < n ∧ I n' s') Q) s
  | .exit id, Q, st => Q (.exit id) st
  | .ret, Q, st => Q .ret st
  | .rangeFunc g ps assign body, Q, st0 => rd = false ∧ ∃ (st : ASt) (f : FuncId) (css : List (List PV)) (xs : List (List AV)) (J : Nat → Store → Prop) (mv : List (Tmp × Tmp)), (st = st0 ∨ Wk st0 st) ∧ st0.ev g = .a (.s (.pv (.clo f css))) ∧ Iter P f css xs ∧
      movesOf assign = some mv ∧ (∀ x ∈ xs, x.length = ps.size) ∧ (∀ p ∈ ps.toList, p < st.n) ∧ (∀ p ∈ mv, p.1 < st.n) ∧ J 0 st.O ∧
      (∀ (k : Nat) (x : List AV) (O : Store), xs[k]? = some x → J k O → awp P T true body (roundK Q (J (k + 1)) st (writesR ps.toList mv body)) (mvTm (psTm { st with O := O } ps.toList x) mv)) ∧
      ∀ O, J xs.length O → Q .normal { st with O := O }
  | _, _, _ => False
end
end Go.Rd
namespace Go.Rd
open Go.RowKit Go.Proofs
section
variable {P : Program} {T : TypeId → Option TI} {w : World} {ι : Nat → Nat → Nat} {st : ASt} {a : Act}
def rfPost (B : Nat) (Kp : World → World → Prop) (I : World → Prop) (Ix : Code → World → Prop) (W : World) : Exit → Act → World → Prop
  | .normal, _, W' => KeepsFrom B W W' ∧ Kp W W' ∧ I W'
  | .ret, _, W' => KeepsFrom B W W' ∧ Ix .ret W'
  | .exit id, _, W' => KeepsFrom B W W' ∧ Ix (.exit id) W'
  | _, _, _ => False
theorem rf_law {g : Operand} {ps : Array Tmp} {assign body : Code} {Q : Exit → Act → World → Prop} {gf : Nat} {vs : Array Value} (hg : a.eval g = .func (.func gf) #[] vs) (eg : Enters P gf) {Kp : World → World → Prop} (ys : List (Array Value))
    (hit : ∀ (l : Nat) (J : Nat → World → Prop) (Jx : World → Prop) (W : World), Below w.heap.size w W → AbidesFrom W.heap.size J → AbidesFrom W.heap.size (fun (_ : Unit) W => Jx W) →
        (∀ (k : Nat) (y : Array Value) (W1 : World), ys[k]? = some y → J k W1 → YieldAt Fence.wide 1 P l y W1 fun e W' =>
          (e = .returned (.bool true) ∧ J (k + 1) W' ∧ Kp W1 W') ∨ (e = .returned (.bool false) ∧ Jx W')) →
        J 0 W → Calls P gf (#[.func (.yield l) #[] #[]] ++ vs) W fun e W' => (∃ v, e = .returned v) ∧ (J ys.length W' ∨ Jx W'))
    (hKt : ∀ {A B C : World}, Kp A B → Kp B C → Kp A C) (hKb : ∀ (W : World) (l : Nat) (o o' : Obj), w.heap.size ≤ l → W.heap[l]? = some o → o.isCells = false → Kp W (W.putObj l o'))
    (hps : ∀ y ∈ ys, y.size = ps.size) (I : Nat → World → Prop) (Ix : Code → World → Prop) (hI : OwnFrom w.heap.size I) (hIx : ∀ c, OwnFrom w.heap.size (fun (_ : Unit) W => Ix c W)) (h0 : I 0 w) (a₁ : Array Value → Act)
    (hassign : ∀ (l : Nat) (y : Array Value) (W : World) (K : Act → World → Prop), y ∈ ys → K (a₁ y) W →
      assign.wpIn (Fence.wide.inRound l) 1 P (Exit.then K (fun _ _ _ => False)) { tmps := (ps.zip y).foldl (fun t (p, v) => t.setIfInBounds p v) a.tmps, defers := [] } W)
    (hbody : ∀ (l k : Nat) (y : Array Value) (W : World), ys[k]? = some y → I k W → body.wpIn (Fence.wide.inRound l) 1 P (rfPost w.heap.size Kp (I (k + 1)) Ix W) (a₁ y) W)
    (hdone : ∀ (D : Nat) (W : World), w.heap.size ≤ D → I ys.length W → W.heap[D]? = some (.deferred (some [])) → Q .normal { a with defers := { target := .collected D, args := #[] } :: a.defers } W)
    (hstop : ∀ (D : Nat) (c : Code) (W : World), w.heap.size ≤ D → Ix c W → W.heap[D]? = some (.deferred (some [])) → c.wpIn Fence.wide 3 P Q { a with defers := { target := .collected D, args := #[] } :: a.defers } W) :
    (Code.rangeFunc g ps assign body).wpIn Fence.wide 3 P Q a w := by
  refine wpIn_rangeFunc ?_
  intro fn hfn
  rw [show Fence.wide.round = none from rfl]
  obtain ⟨rec, hrec⟩ : ∃ rec : LoopState → Option Code → Loop, rec = fun st pe => { state := st, pending := pe, fn, tmps := a.tmps, params := ps, assign, body, defers := w.heap.size } := ⟨_, rfl⟩
  obtain ⟨W1, hW1⟩ : ∃ W1, (w.alloc (.deferred (some []))).alloc (.loop (rec .ready none)) = W1 := ⟨_, rfl⟩
  have hL1 : W1.heap[w.heap.size + 1]? = some (.loop (rec .ready none)) := by
    rw [← hW1]; have := World.alloc_heap_new (w.alloc (.deferred (some []))) (.loop (rec .ready none)); rwa [World.size_alloc] at this
  have hK1 : W1.heap[w.heap.size]? = some (.deferred (some [])) := by
    rw [← hW1]; exact (Below.heap_alloc _ _ _ (by simp)).trans (World.alloc_heap_new w _)
  have hI1 : I 0 W1 := by rw [← hW1]; exact hI.alloc _ (hI.alloc _ h0)
  have hb1 : Below w.heap.size w W1 := by
    rw [← hW1]; exact ((Below.refl _ w).alloc (Nat.le_refl _) _).alloc (by simp) _
  refine ⟨w.heap.size + 1, [{ target := .collected w.heap.size, args := #[] }], W1, { target := .fn (.func gf) vs, args := #[.func (.yield (w.heap.size + 1)) #[] #[]] }, W1, gf,
    #[.func (.yield (w.heap.size + 1)) #[] #[]] ++ vs, W1, ?_, ?_, ?_, ?_, fun h => (by cases h), ?_⟩
  · rw [← hW1, hrec]; exact run_enterLoop_outer _ _ _ _ _
  · simp only [resolve, hg]
    simp [go_sem]
  · intro f' hf'; trivial
  · simp [invoke, go_sem]
    exact eg _ _
  · have hnw : ∀ {A B : World} {row : Option Nat}, (∀ r, row = some r → W1.heap.size ≤ r ∧ ∃ o : Obj, A.heap[r]? = some o ∧ o.isWalk = true) → (∀ r, row = some r → w.heap.size ≤ r ∧ ∃ o : Obj, A.heap[r]? = some o ∧ o.isCells = false) :=
      fun hr r e => by obtain ⟨hB, o, ho, hw⟩ := hr r e; exact ⟨by rw [← hW1] at hB; simp at hB; omega, o, ho, Obj.not_cells_of_walk hw⟩
    refine callsIn_wide.2 ((hit (w.heap.size + 1)
      (fun k W => I k W ∧ W.heap[w.heap.size + 1]? = some (.loop (rec .ready none)) ∧ W.heap[w.heap.size]? = some (.deferred (some [])))
      (fun W => ∃ c, Ix c W ∧ W.heap[w.heap.size + 1]? = some (.loop (rec .done (some c))) ∧ W.heap[w.heap.size]? = some (.deferred (some [])))
      W1 hb1
      (fun s A B row hs hg' hr => ⟨hI s A B row hs.1 hg' (hnw (B := B) hr), (grownBy_keeps hg' (fun r e => (hr r e).2) hs.2.1 rfl).trans hs.2.1, (grownBy_keeps hg' (fun r e => (hr r e).2) hs.2.2 rfl).trans hs.2.2⟩)
      (fun s A B row hs hg' hr => by
        obtain ⟨c, hc, hl, hk⟩ := hs
        exact ⟨c, hIx c s A B row hc hg' (hnw (B := B) hr), (grownBy_keeps hg' (fun r e => (hr r e).2) hl rfl).trans hl, (grownBy_keeps hg' (fun r e => (hr r e).2) hk rfl).trans hk⟩)
      ?_ ⟨hI1, hL1, hK1⟩).mono ?_)
    · rintro k y W hky ⟨hi, hl, hk⟩
      have hmem : y ∈ ys := List.mem_of_getElem? hky
      have hlt : w.heap.size + 1 < W.heap.size := (Array.getElem?_eq_some_iff.1 hl).1
      have hy := run_yield (P := P) (args := y) hl (by rw [hrec]; exact hps y hmem)
      rw [hrec] at hy
      refine ⟨fn, _, assign, body, hy, roundIn_of_wpIn hfn (hassign _ y W _ hmem ⟨_, run_beginRound hl (by rw [hrec]), ?_⟩)⟩
      have hl2 : (W.putObj (w.heap.size + 1) (.loop { rec .ready none with state := .busy })).heap[w.heap.size + 1]? = some (.loop { rec .ready none with state := .busy }) := World.putObj_heap_same hlt
      have hk2 : (W.putObj (w.heap.size + 1) (.loop { rec .ready none with state := .busy })).heap[w.heap.size]? = some (.deferred (some [])) := (World.putObj_heap_other (by omega)).trans hk
      have hw2 : Kp W (W.putObj (w.heap.size + 1) (.loop { rec .ready none with state := .busy })) := hKb _ _ _ _ (by omega) hl rfl
      refine wpIn_mono (hbody _ k y _ hky (hI.putObj _ hi (by omega) hl rfl)) ?_
      have fin : ∀ (jump : Option Code) (W3 : World), KeepsFrom w.heap.size (W.putObj (w.heap.size + 1) (.loop { rec .ready none with state := .busy })) W3 →
          (Instr.endRound (w.heap.size + 1) jump).run P W3 = .ok (.bool jump.isNone) (W3.putObj (w.heap.size + 1) (.loop (rec (if jump.isNone then .ready else .done) jump))) ∧
          W3.heap[w.heap.size + 1]? = some (.loop { rec .ready none with state := .busy }) ∧
          (W3.putObj (w.heap.size + 1) (.loop (rec (if jump.isNone then .ready else .done) jump))).heap[w.heap.size + 1]? = some (.loop (rec (if jump.isNone then .ready else .done) jump)) ∧
          (W3.putObj (w.heap.size + 1) (.loop (rec (if jump.isNone then .ready else .done) jump))).heap[w.heap.size]? = some (.deferred (some [])) := fun jump W3 hk3 => by
        have hl3 := hk3.same _ _ (by omega) hl2 rfl
        have := run_endRound (P := P) jump hl3
        rw [hrec] at this ⊢
        exact ⟨this, by rw [hrec] at hl3; exact hl3, World.putObj_heap_same (Array.getElem?_eq_some_iff.1 hl3).1, (World.putObj_heap_other (by omega)).trans (hk3.same _ _ (Nat.le_refl _) hk2 rfl)⟩
      rintro e a3 W3 hp
      cases e with
      | normal =>
        obtain ⟨hk3, hkp3, hi3⟩ := hp
        obtain ⟨hr, hl3, hl4, hk4⟩ := fin none W3 hk3
        exact ⟨_, _, hr, .inl ⟨rfl, ⟨hI.putObj _ hi3 (by omega) hl3 rfl, hl4, hk4⟩, hKt (hKt hw2 hkp3) (hKb _ _ _ _ (by omega) hl3 rfl)⟩⟩
      | ret =>
        obtain ⟨hk3, hi3⟩ := hp
        obtain ⟨hr, hl3, hl4, hk4⟩ := fin (some .ret) W3 hk3
        exact ⟨_, _, hr, .inr ⟨rfl, .ret, (hIx _).putObj (s := ()) _ hi3 (by omega) hl3 rfl, hl4, hk4⟩⟩
      | exit id =>
        obtain ⟨hk3, hi3⟩ := hp
        obtain ⟨hr, hl3, hl4, hk4⟩ := fin (some (.exit id)) W3 hk3
        exact ⟨_, _, hr, .inr ⟨rfl, .exit id, (hIx _).putObj (s := ()) _ hi3 (by omega) hl3 rfl, hl4, hk4⟩⟩
      | goto t => exact hp.elim
      | panic ch => exact hp.elim
      | outgrown => exact hp.elim
    · rintro e W2 ⟨⟨v, rfl⟩, (⟨hi, hl, hk⟩ | ⟨c, hi, hl, hk⟩)⟩
      · exact ⟨none, _, by have := run_endLoop (P := P) hl (by rw [hrec]; simp); rw [hrec] at this; exact this, hdone _ _ (Nat.le_refl _) (hI.putObj _ hi (by omega) hl rfl) ((World.putObj_heap_other (by omega)).trans hk)⟩
      · exact ⟨some c, _, by have := run_endLoop (P := P) hl (by rw [hrec]; simp); rw [hrec] at this; exact this, hstop _ c _ (Nat.le_refl _) ((hIx c).putObj (s := ()) _ hi (by omega) hl rfl) ((World.putObj_heap_other (by omega)).trans hk)⟩
theorem movesL_sound {F : Fence} {rd : Bool} (hF : Place F rd) {n : Nat} {ops : Array Oper} {Q : Exit → Act → World → Prop} : ∀ (l : List Oper) {mv : List (Tmp × Tmp)} {a : Act} {w : World}, movesL l = some mv → Q .normal (mvAct a mv) w → wpListIn F n P ops Q l a w
  | [], mv, a, w, h, hq => by
    simp only [movesL, Option.some.injEq] at h
    subst h
    exact hq
  | o :: r, mv, a, w, h, hq => by
    obtain ⟨dst, op, ty, pos, after, guard⟩ := o
    unfold movesL at h
    split at h
    · rename_i d s q h1 h2 h3 h4
      simp only at h1 h2 h3
      subst h1; subst h2; subst h3
      simp only [Option.some.injEq] at h
      subst h
      unfold wpListIn
      rw [if_pos (by simp [Region.wanted])]
      refine ⟨fun f _ => hF.fn f, ?_⟩
      rw [semAt_same hF _ (by intro c; simp)]
      exact movesL_sound hF r h4 hq
    · rename_i d s q h1 h2 h3 h4
      simp only at h1 h2 h3
      subst h1; subst h2; subst h3
      simp only [Option.some.injEq] at h
      subst h
      unfold wpListIn
      rw [if_pos (by simp [Region.wanted])]
      refine ⟨fun f _ => hF.fn f, ?_⟩
      rw [semAt_same hF _ (by intro c; simp)]
      exact movesL_sound hF r h4 hq
    · cases h
theorem mvAct_append (a : Act) : ∀ (p q : List (Tmp × Tmp)), mvAct a (p ++ q) = mvAct (mvAct a p) q
  | [], q => rfl
  | (d, s) :: r, q => by simp only [List.cons_append, mvAct]; exact mvAct_append _ r q
theorem movesOf_sound {F : Fence} {rd : Bool} (hF : Place F rd) {n : Nat} : ∀ (c : Code) {mv : List (Tmp × Tmp)} {a : Act} {w : World} {K : Act → World → Prop} {Q : Exit → Act → World → Prop}, movesOf c = some mv → K (mvAct a mv) w → c.wpIn F n P (Exit.then K Q) a w
  | .skip, mv, a, w, K, Q, h, hk => by
    simp only [movesOf, Option.some.injEq] at h
    subst h
    exact wpIn_skip hk
  | .region id ops draw, mv, a, w, K, Q, h, hk => by
    cases draw with
    | true => cases h
    | false => exact wpIn_region_list (movesL_sound hF ops.toList h hk)
  | .seq x y, mv, a, w, K, Q, h, hk => by
    unfold movesOf at h
    split at h
    · rename_i p q hp hq
      simp only [Option.some.injEq] at h
      subst h
      refine wpIn_seq ?_
      have := movesOf_sound (n := n) hF x (K := y.wpIn F n P (Exit.then K Q)) (Q := Exit.then K Q) (a := a) (w := w) hp (movesOf_sound hF y hq (by rw [← mvAct_append]; exact hk))
      exact this
    · cases h
  | .cond .., _, _, _, _, _, h, _ => by cases h
  | .block .., _, _, _, _, _, h, _ => by cases h
  | .loop .., _, _, _, _, _, h, _ => by cases h
  | .exit .., _, _, _, _, _, h, _ => by cases h
  | .ret, _, _, _, _, _, h, _ => by cases h
  | .rangeFunc .., _, _, _, _, _, h, _ => by cases h
  | .scope .., _, _, _, _, _, h, _ => by cases h
  | .label .., _, _, _, _, _, h, _ => by cases h
  | .goto .., _, _, _, _, _, h, _ => by cases h
  | .refuse .., _, _, _, _, _, h, _ => by cases h
theorem mv_good : ∀ (mv : List (Tmp × Tmp)) {st : ASt} {a : Act}, Good st a w ι → (∀ p ∈ mv, p.1 < st.n) → Good (mvTm st mv) (mvAct a mv) w ι ∧ (mvTm st mv).L = st.L ∧ (mvTm st mv).n = st.n ∧ (mvTm st mv).O = st.O
  | [], st, a, h, _ => ⟨h, rfl, rfl, rfl⟩
  | (d, s) :: r, st, a, h, hn => by
    have h1 : Good (st.set d (st.get s)) (a.put (some d) (a.tmps.getD s undef)) w ι := ⟨h.toFits.set (hn (d, s) (by simp)) (h.ev (.tmp s)), h.sup, h.lev⟩
    exact mv_good r h1 (fun p hp => hn p (List.mem_cons_of_mem _ hp))
theorem mv_kept {W : Nat → Bool} : ∀ (mv : List (Tmp × Tmp)) {a b : Act}, (∀ p ∈ mv, W p.1 = true) → Kept W a b → Kept W a (mvAct b mv) ∧ (mvAct b mv).defers = b.defers
  | [], a, b, _, h => ⟨h, rfl⟩
  | (d, s) :: r, a, b, hW, h => mv_kept r (fun p hp => hW p (List.mem_cons_of_mem _ hp)) (h.put (fun d' e => by cases e; exact hW (d, s) (by simp)) _)
def psAct (a : Act) : List Tmp → List Value → Act
  | p :: ps, v :: vs => psAct (a.put (some p) v) ps vs
  | _, _ => a
theorem psAct_fold : ∀ (ps : List Tmp) (vs : List Value) (a : Act), { tmps := (ps.zip vs).foldl (fun t (p, v) => t.setIfInBounds p v) a.tmps, defers := a.defers } = psAct a ps vs
  | [], vs, a => by simp [psAct]
  | p :: ps, [], a => by simp [psAct]
  | p :: ps, v :: vs, a => by
    simp only [List.zip_cons_cons, List.foldl_cons, psAct]
    exact psAct_fold ps vs (a.put (some p) v)
theorem ps_good : ∀ (ps : List Tmp) (xs : List AV) (vs : List Value) {st : ASt} {a : Act}, Good st a w ι → xs.length = vs.length → (∀ p ∈ ps, p < st.n) → (∀ (j : Nat) (u : AV) (v : Value), xs[j]? = some u → vs[j]? = some v → RepA w (Gd w ι st.O) ι st.O u v) →
    Good (psTm st ps xs) (psAct a ps vs) w ι ∧ (psTm st ps xs).L = st.L ∧ (psTm st ps xs).n = st.n ∧ (psTm st ps xs).O = st.O
  | [], xs, vs, st, a, h, _, _, _ => by simpa [psTm, psAct] using h
  | p :: ps, [], vs, st, a, h, hl, _, _ => by
    have : vs = [] := List.eq_nil_of_length_eq_zero hl.symm
    subst this
    exact ⟨h, rfl, rfl, rfl⟩
  | p :: ps, x :: xs, [], st, a, h, hl, _, _ => by simp at hl
  | p :: ps, x :: xs, v :: vs, st, a, h, hl, hn, hr => by
    have h1 : Good (st.set p (.a x)) (a.put (some p) v) w ι := ⟨h.toFits.set (hn p (by simp)) (v := .a x) (hr 0 x v rfl rfl), h.sup, h.lev⟩
    exact ps_good ps xs vs h1 (by simpa using hl) (fun q hq => hn q (List.mem_cons_of_mem _ hq)) (fun j u v' hu hv => hr (j + 1) u v' (by simpa using hu) (by simpa using hv))
theorem ps_kept {W : Nat → Bool} : ∀ (ps : List Tmp) (vs : List Value) {a b : Act}, (∀ p ∈ ps, W p = true) → Kept W a b → Kept W a (psAct b ps vs) ∧ (psAct b ps vs).defers = b.defers
  | [], vs, a, b, _, h => by simpa [psAct] using h
  | p :: ps, [], a, b, _, h => ⟨h, rfl⟩
  | p :: ps, v :: vs, a, b, hW, h => ps_kept ps vs (fun q hq => hW q (List.mem_cons_of_mem _ hq)) (h.put (fun d e => by cases e; exact hW p (by simp)) _)
theorem Good.defers {ds : List Deferred} (h : Good st a w ι) : Good st { a with defers := ds } w ι := ⟨⟨h.lies, h.size, h.tm, h.out⟩, h.sup, h.lev⟩
theorem Moves.grown {s s' : ASt} {W W' : World} {ι' : Nat → Nat → Nat} {row : Option Nat} (h : Moves s s' w W ι ι') (hg : W.grownBy W' row) (hr : ∀ r, row = some r → w.heap.size ≤ r ∧ ∃ o : Obj, W.heap[r]? = some o ∧ o.isCells = false) : Moves s s' w W' ι ι' := by
  have hc := Cel.of_grown hg (fun r e => (hr r e).2)
  refine ⟨h.L, h.n, hg.os.trans h.os, hg.tape.trans h.tape, hg.output.trans h.output, Nat.le_trans h.size hg.size, fun k hk ho => ?_, h.own, h.low, fun l b o c e hl ho hcc => ?_⟩
  · rw [hg.block k (Nat.lt_of_lt_of_le hk h.size) (fun e => by have := (hr k e.symm).1; omega)]
    exact h.keep k hk ho
  · obtain ⟨c', h1, h2⟩ := h.roomy l b o c e hl ho hcc
    exact ⟨c', hc.same _ _ _ _ h1, h2⟩
theorem RepA.nowhere {w' : World} {G : Nat → Prop} {u : AV} {v : Value} {O : Store} (h : RepA w G (fun _ _ => 0) (fun _ _ => none) u v) (hG : ∀ k, G k → Gd w' ι O k ∧ w'.heap[k]? = w.heap[k]?) : RepA w' (Gd w' ι O) ι O u v :=
  RepA.stays h ⟨hG, fun l b o ho => (by cases ho), fun l b o c e ho => (by cases ho)⟩
theorem awp_sound (hT : TOk P T) (hm : P.follows .mixedOrders = true) {rd : Bool} {F : Fence} (hF : Place F rd) {n : Nat} : ∀ (c : Code) {base : Nat} {Q : Exit → ASt → Prop} {st : ASt} {a : Act} {w : World} {ι : Nat → Nat → Nat}, Good st a w ι → Marks base a w → base ≤ w.heap.size → awp P T rd c Q st →
    c.wpIn F n P (fun e a' w' => ∃ st' ι', Q e st' ∧ Good st' a' w' ι' ∧ Moves st st' w w' ι ι' ∧ Marks base a' w' ∧ Kept (writesB c) a a') a w
  | .skip, base, Q, st, a, w, ι, h, hd, _, hk => wpIn_skip ⟨st, ι, hk, h, Moves.refl _ _ _, hd, Kept.refl _ _⟩
  | .exit id, base, Q, st, a, w, ι, h, hd, _, hk => wpIn_exit ⟨st, ι, hk, h, Moves.refl _ _ _, hd, Kept.refl _ _⟩
  | .ret, base, Q, st, a, w, ι, h, hd, _, hk => wpIn_ret ⟨st, ι, hk, h, Moves.refl _ _ _, hd, Kept.refl _ _⟩
  | .region id ops draw, base, Q, st, a, w, ι, h, hd, hbase, hk => by
    unfold awp at hk
    split at hk
    · rename_i hdr
      subst hdr
      obtain ⟨hb1, hb2⟩ := h.below ((Below.refl w.heap.size w).drew)
      cases rd with
      | true =>
        rcases hk with ⟨hrd, _⟩ | hk
        · cases hrd
        refine wpIn_region_any hm ?_
        have := danyR_sound (QQ := fun e a' w' => ∃ st' ι', Q e st' ∧ Good st' a' w' ι' ∧ Moves st st' w w' ι ι' ∧ Marks base a' w' ∧ Kept (writesB (.region id ops true)) a a') hT hF (m := n) (ops := ops.toList) (Q := Q .normal) (a0 := a)
          (fun a' w' st' ι' q1 q2 q3 q4 q5 => ⟨st', ι', q1, q2, hb2.trans q3, hd.moves h (hb2.trans q3) q4, q5⟩) ops.size (Array.replicate ops.size false) hb1 (Moves.refl _ _ _) rfl (Kept.refl _ _) hk
        rw [Array.toArray_toList] at this
        exact this
      | false =>
        have hFw : F = Fence.wide := hF
        subst hFw
        refine wpIn_wide.2 ?_
        rcases hk with ⟨_, hB, hk⟩ | hk
        case inr =>
          refine wp_mono (wp_region_any hm (dany_sound (a0 := a) hT _ _ hb1 (Moves.refl _ _ _) rfl (Kept.refl _ _) hk)) ?_
          rintro e a' w' ⟨rfl, k4, k5, st', ι', k1, k2, k3⟩
          exact ⟨st', ι', k1, k2, hb2.trans k3, hd.moves h (hb2.trans k3) k4, k5⟩
        refine wp_region_quiet (C := fun w' => Below w.heap.size w w') hm hB ((Below.refl _ w).drew) ?_
        have := qops_sound (a0 := a) hT ops.toList (fun o ho => ho) h rfl (Kept.refl _ _) hk
        rw [Array.toArray_toList] at this
        refine wpQuiet_mono' ?_ ops.toList a this
        rintro a' ⟨k4, k5, st', h1, h2, h3, h4, h5⟩ w' hw'
        obtain ⟨g1, g2⟩ := h2.below hw'
        have hmv := g2.of_O' h3 h4 h5
        exact ⟨st', ι, h1, g1, hmv, hd.moves h hmv k4, k5⟩
    · rename_i hdr
      have hd' : draw = false := by simpa using hdr
      subst hd'
      refine wpIn_region_list ?_
      have := aops_sound (QQ := fun e a' w' => ∃ st' ι', Q e st' ∧ Good st' a' w' ι' ∧ Moves st st' w w' ι ι' ∧ Marks base a' w' ∧ Kept (writesB (.region id ops false)) a a') hT hF (m := n) (ops := ops.toList) (Q := Q .normal) (a0 := a)
        (fun a' w' st' ι' q1 q2 q3 q4 q5 => ⟨st', ι', q1, q2, q3, hd.moves h q3 q4, q5⟩) ops.toList (fun o ho => ho) h (Moves.refl _ _ _) rfl (Kept.refl _ _) hk
      rw [Array.toArray_toList] at this
      exact this
  | .seq x y, base, Q, st, a, w, ι, h, hd, hbase, hk => by
    unfold awp at hk
    obtain ⟨J, hJ, hk⟩ := hk
    have hwx : ∀ t, writesB (.seq x y) t = false → writesB x t = false := fun t ht => by simp only [writesB, Bool.or_eq_false_iff] at ht; exact ht.1
    have hwy : ∀ t, writesB (.seq x y) t = false → writesB y t = false := fun t ht => by simp only [writesB, Bool.or_eq_false_iff] at ht; exact ht.2
    refine wpIn_seq (wpIn_mono (awp_sound hT hm hF x h hd hbase hk) ?_)
    rintro e a' w' ⟨st', ι', h1, h2, h3, h6, h7⟩
    cases e with
    | normal =>
      obtain ⟨s2, h4, h1⟩ := h1
      obtain ⟨h2, h5⟩ := h2.wk' h4
      refine wpIn_mono (awp_sound hT hm hF y h2 h6 (Nat.le_trans hbase h3.size) (hJ s2 h1)) ?_
      rintro e a2 w2 ⟨st2, ι2, k1, k2, k3, k4, k5⟩
      exact ⟨st2, ι2, k1, k2, (h3.trans h5).trans k3, k4, (h7.mono hwx).trans (k5.mono hwy)⟩
    | _ => exact ⟨st', ι', h1, h2, h3, h6, h7.mono hwx⟩
  | .cond c x y, base, Q, st, a, w, ι, h, hd, hbase, hk => by
    unfold awp kcond at hk
    have hc := h.ev c
    have hwx : ∀ t, writesB (.cond c x y) t = false → writesB x t = false := fun t ht => by simp only [writesB, Bool.or_eq_false_iff] at ht; exact ht.1
    have hwy : ∀ t, writesB (.cond c x y) t = false → writesB y t = false := fun t ht => by simp only [writesB, Bool.or_eq_false_iff] at ht; exact ht.2
    split at hk
    · rename_i b hq
      rw [hq] at hc
      have hv := (RepP.lit_inv hc).1
      cases b
      · refine wpIn_cond hv (wpIn_mono (awp_sound hT hm hF y h hd hbase (hk.2 rfl)) ?_)
        rintro e a' w' ⟨st', ι', k1, k2, k3, k4, k5⟩
        exact ⟨st', ι', k1, k2, k3, k4, k5.mono hwy⟩
      · refine wpIn_cond hv (wpIn_mono (awp_sound hT hm hF x h hd hbase (hk.1 rfl)) ?_)
        rintro e a' w' ⟨st', ι', k1, k2, k3, k4, k5⟩
        exact ⟨st', ι', k1, k2, k3, k4, k5.mono hwx⟩
    · exact hk.elim
  | .block id c, base, Q, st, a, w, ι, h, hd, hbase, hk => by
    unfold awp at hk
    refine wpIn_block (wpIn_mono (awp_sound hT hm hF c h hd hbase hk) ?_)
    rintro e a' w' ⟨st', ι', h1, h2, h3⟩
    cases e with
    | exit id' =>
      simp only [kblock] at h1
      simp only [Exit.inBlock]
      split at h1
      · rename_i he; rw [if_pos he]; exact ⟨st', ι', h1, h2, h3⟩
      · rename_i he; rw [if_neg he]; exact ⟨st', ι', h1, h2, h3⟩
    | _ => exact ⟨st', ι', h1, h2, h3⟩
  | .loop c, base, Q, st, a, w, ι, h, hd, hbase, hk => by
    unfold awp at hk
    obtain ⟨I, n0, s0, hw0, h0, hround⟩ := hk
    obtain ⟨hg0, hm0⟩ := h.wk' hw0
    refine wpIn_loop_ghost (fun k a' w' => ∃ st' ι', I k st' ∧ Good st' a' w' ι' ∧ Moves st st' w w' ι ι' ∧ Marks base a' w' ∧ Kept (writesB c) a a') n0 ⟨s0, ι, h0, hg0, hm0, hd, Kept.refl _ _⟩ ?_
    rintro k a1 w1 ⟨st1, ι1, k1, k2, k3, k4, k5⟩
    refine wpIn_mono (awp_sound hT hm hF c k2 k4 (Nat.le_trans hbase k3.size) (hround k st1 k1)) ?_
    rintro e a2 w2 ⟨st2, ι2, q1, q2, q3, q6, q7⟩
    cases e with
    | normal =>
      obtain ⟨s2, q4, n', hn, q1⟩ := q1
      obtain ⟨q2, q5⟩ := q2.wk' q4
      exact ⟨n', hn, s2, ι2, q1, q2, (k3.trans q3).trans q5, q6, k5.trans q7⟩
    | _ => exact ⟨st2, ι2, q1, q2, k3.trans q3, q6, k5.trans q7⟩
  | .rangeFunc g ps assign body, base, Q, st0, a, w, ι, h, hd, hbase, hk => by
    unfold awp at hk
    obtain ⟨hrd, st, f, css, xs, J, mv, hwk, hev, ⟨hent, hit⟩, hmv, hlen, hps, hmvn, h0, hround, hdone⟩ := hk
    subst hrd
    have hFw : F = Fence.wide := hF
    subst hFw
    refine wpIn_wide.2 ((wpIn_wide (n := 3)).1 ?_)
    have hgv := h.ev g
    rw [hev] at hgv
    obtain ⟨hgood, hmv0⟩ := h.wk' hwk
    have hGd : ∀ k, Gd w ι st0.O k → Gd w ι st.O k := by
      rcases hwk with rfl | hwk
      · exact fun k hk => hk
      · exact fun k hk => ⟨hk.1, fun ⟨l, b, o, ho, e⟩ => hk.2 ⟨l, b, o, hwk.obj l b o ho, e⟩⟩
    obtain ⟨vs, hgv, hrepc⟩ : ∃ vs : List Value, a.eval g = .func (.func f) #[] vs.toArray ∧ RepP w (Gd w ι st.O) (.clo f css) (.func (.func f) #[] vs.toArray) := by
      have h1 : RepP w (Gd w ι st.O) (.clo f css) (a.eval g) := RepP.mono hgv (fun k hk => ⟨hGd k hk, rfl⟩)
      generalize a.eval g = v at h1
      cases h1 with
      | clo _ _ vs blk u q1 q2 q3 q4 => exact ⟨vs, rfl, .clo f css vs blk u q1 q2 q3 q4⟩
    obtain ⟨ys, hyl, hyr, hiter⟩ := hit w (Gd w ι st.O) vs (fun k hk => hk.1) hrepc
    -- between two rounds
    have hy2 : ∀ (k : Nat) (y : Array Value), (ys.map List.toArray)[k]? = some y → ∃ y' x, ys[k]? = some y' ∧ xs[k]? = some x ∧ y = y'.toArray ∧ y'.length = x.length ∧ x.length = ps.size := by
      intro k y hk
      rw [List.getElem?_map] at hk
      cases hy : ys[k]? with
      | none => simp [hy] at hk
      | some y' =>
        simp only [hy, Option.map_some, Option.some.injEq] at hk
        have hlt : k < xs.length := by rw [← hyl]; exact (List.getElem?_eq_some_iff.1 hy).1
        have hx := List.getElem?_eq_getElem hlt
        exact ⟨y', xs[k], rfl, hx, hk.symm, (hyr k _ _ hx hy).1, hlen _ (List.getElem_mem hlt)⟩
    refine rf_law (a := a) (w := w) (Kp := fun W W' => ∀ b, Gd w ι st.O b → W'.heap[b]? = W.heap[b]?) hgv hent (ys.map List.toArray) ?_ (fun h1 h2 b hb => (h2 b hb).trans (h1 b hb)) ?_ ?_
      (fun k W => ∃ O ι', J k O ∧ Good { st with O := O } a W ι' ∧ Moves st { st with O := O } w W ι ι')
      (fun c W => ∃ O ι', (match c with
        | .ret => Q .ret { st with O := O }
        | .exit id => Q (.exit id) { st with O := O }
        | _ => False) ∧ Good { st with O := O } a W ι' ∧ Moves st { st with O := O } w W ι ι')
      ?_ ?_ ⟨st.O, ι, h0, hgood, Moves.refl _ _ _⟩ (fun y => mvAct (psAct { a with defers := [] } ps.toList y.toList) mv) ?_ ?_ ?_ ?_
    · -- the iterator
      intro l JJ Jx W hW hJ hJx hY hJ0
      have := hiter l JJ Jx W hW hJ hJx (fun k y W1 hk hj => hY k y.toArray W1 (by rw [List.getElem?_map, hk]; rfl) hj) hJ0
      rw [List.length_map]
      exact this
    · intro W l o o' hl ho hc b hb
      exact World.putObj_heap_other (by have := hb.1; omega)
    · intro y hy
      obtain ⟨k, hk⟩ := List.mem_iff_getElem?.1 hy
      obtain ⟨y', x, _, _, rfl, h1, h2⟩ := hy2 k y hk
      simp [h1, h2]
    · rintro k A B row ⟨O, ι', q1, q2, q3⟩ hg hr
      exact ⟨O, ι', q1, q2.cel (Cel.of_grown hg fun r e => (hr r e).2), q3.grown hg hr⟩
    · rintro c s A B row ⟨O, ι', q1, q2, q3⟩ hg hr
      exact ⟨O, ι', q1, q2.cel (Cel.of_grown hg fun r e => (hr r e).2), q3.grown hg hr⟩
    · intro l y W K hy hK
      have e : ({ tmps := (ps.zip y).foldl (fun t (p, v) => t.setIfInBounds p v) a.tmps, defers := [] } : Act) = psAct { a with defers := [] } ps.toList y.toList := by
        rw [← psAct_fold]
        congr 1
        rw [← Array.foldl_toList, Array.toList_zip]
      rw [e]
      exact movesOf_sound (rd := true) (show Place _ true from ⟨l, rfl⟩) assign hmv hK
    · -- one round
      rintro l k y W hk ⟨O, ι', q1, q2, q3⟩
      obtain ⟨y', x, h1, h2, rfl, h3, h4⟩ := hy2 k y hk
      have hkeep : ∀ b, Gd w ι st.O b → Gd W ι' O b ∧ W.heap[b]? = w.heap[b]? := by
        intro b hb
        refine ⟨⟨Nat.lt_of_lt_of_le hb.1 q3.size, ?_⟩, q3.keep b hb.1 hb.2⟩
        rintro ⟨l2, b2, o2, ho2, rfl⟩
        rcases q3.own l2 b2 o2 ho2 with h5 | h5
        · exact hb.2 h5
        · have := hb.1; omega
      have hg1 : Good { st with O := O } { a with defers := [] } W ι' := q2.defers
      obtain ⟨p1, p2, p3, p4⟩ := ps_good ps.toList x y' hg1 h3.symm (fun p hp => hps p hp) (fun j u v hu hv => (hyr k x y' h2 h1).2 j u v hu hv |>.nowhere hkeep)
      obtain ⟨r1, r2, r3, r4⟩ := mv_good mv p1 (fun p hp => by rw [p3]; exact hmvn p hp)
      have hbody := hround k x O h2 q1
      have hplace : Place (Fence.wide.inRound l) true := ⟨l, rfl⟩
      have hkp : Kept (writesR ps.toList mv body) { a with defers := [] } (mvAct (psAct { a with defers := [] } ps.toList y') mv) ∧ (mvAct (psAct { a with defers := [] } ps.toList y') mv).defers = [] := by
        obtain ⟨s1, s2⟩ := ps_kept (W := writesR ps.toList mv body) ps.toList y' (a := { a with defers := [] }) (fun p hp => by simp only [writesR, Bool.or_eq_true]; exact .inl (.inl (List.any_eq_true.2 ⟨p, hp, Nat.beq_refl p⟩))) (Kept.refl _ _)
        obtain ⟨s3, s4⟩ := mv_kept (W := writesR ps.toList mv body) mv (fun p hp => by simp only [writesR, Bool.or_eq_true]; exact .inl (.inr (List.any_eq_true.2 ⟨p, hp, Nat.beq_refl p.1⟩))) s1
        exact ⟨s3, s4.trans s2⟩
      refine wpIn_mono (awp_sound hT hm hplace body r1 (Marks.nil (base := 0) hkp.2) (Nat.zero_le _) hbody) ?_
      rintro e a2 W2 ⟨s2, ι2, ⟨s3, hw3, hback, hout⟩, g2, m2, _, k2⟩
      obtain ⟨g3, m3⟩ := g2.wk' hw3
      have hm4 := m2.trans m3
      have hO1 : (mvTm (psTm { st with O := O } ps.toList x) mv).O = O := r4.trans p4
      -- the loop's activation, over what the round has left
      have hgood2 : Good { st with O := s3.O } a W2 ι2 := by
        refine ⟨⟨g3.lies, hgood.size, fun t ht => ?_, hgood.out⟩, fun l b o ho => ?_, g3.lev⟩
        · show RepT _ _ _ _ (st.get t) _
          rcases hback t with e1 | ⟨e1, e2⟩
          · rw [e1]; trivial
          · have hsz : t < s3.n := by rw [hm4.n, r3, p3]; exact ht
            have := g3.tm t hsz
            rw [e2] at this
            have hw1 := hkp.1 t e1
            have hw2 : a2.tmps.getD t undef = (mvAct (psAct { a with defers := [] } ps.toList y') mv).tmps.getD t undef := k2 t (by simp only [writesR, Bool.or_eq_false_iff] at e1; exact e1.2)
            rw [hw2, hw1] at this
            exact this
        · have := g3.sup l b o ho
          rw [hm4.L, r2, p2] at this
          exact this
      have hmoves2 : Moves st { st with O := s3.O } w W2 ι ι2 := by
        refine q3.trans ?_
        refine ⟨rfl, rfl, hm4.os, hm4.tape, hm4.output, hm4.size, fun k hk ho => hm4.keep k hk (by rw [hO1]; exact ho), fun l b o ho => ?_, fun l b o hl ho => ?_, fun l b o c e hl ho hc => ?_⟩
        · have := hm4.own l b o ho
          rw [hO1] at this
          exact this
        · exact hm4.low l b o (by rw [r2, p2]; exact hl) (by rw [hO1]; exact ho)
        · exact hm4.roomy l b o c e (by rw [r2, p2]; exact hl) (by rw [hO1]; exact ho) hc
      have hkf : KeepsFrom w.heap.size W W2 := by
        refine ⟨hm4.size, fun k o _ hk hc => ?_⟩
        rw [hm4.keep k (Array.getElem?_eq_some_iff.1 hk).1 (by rw [hO1]; exact not_own q2.lies hk hc)]
        exact hk
      cases e with
      | normal =>
        refine ⟨hkf, fun b hb => ?_, s3.O, ι2, hout, hgood2, hmoves2⟩
        obtain ⟨h5, h6⟩ := hkeep b hb
        exact hm4.keep b h5.1 (by rw [hO1]; exact h5.2)
      | ret => exact ⟨hkf, s3.O, ι2, hout, hgood2, hmoves2⟩
      | exit id => exact ⟨hkf, s3.O, ι2, hout, hgood2, hmoves2⟩
      | _ => exact hout.elim
    · -- all rounds are over
      rintro D W hD ⟨O, ι', q1, q2, q3⟩ hK
      refine ⟨{ st with O := O }, ι', hdone O (by rw [List.length_map, hyl] at q1; exact q1), q2.defers, hmv0.trans q3, marks_cons hd h (hmv0.trans q3) (Nat.le_trans hbase hD) hD hK, fun _ _ => rfl⟩
    · rintro D c W hD ⟨O, ι', q1, q2, q3⟩ hK
      have hmk := marks_cons hd h (hmv0.trans q3) (Nat.le_trans hbase hD) hD hK
      cases c with
      | ret => exact wpIn_ret ⟨{ st with O := O }, ι', q1, q2.defers, hmv0.trans q3, hmk, fun _ _ => rfl⟩
      | exit id => exact wpIn_exit ⟨{ st with O := O }, ι', q1, q2.defers, hmv0.trans q3, hmk, fun _ _ => rfl⟩
      | _ => exact q1.elim
  | .scope _, _, _, _, _, _, _, _, _, _, hk => by simp [awp] at hk
  | .label _, _, _, _, _, _, _, _, _, _, hk => by simp [awp] at hk
  | .goto _, _, _, _, _, _, _, _, _, _, hk => by simp [awp] at hk
  | .refuse _, _, _, _, _, _, _, _, _, _, hk => by simp [awp] at hk
where
  wpQuiet_mono' {P : Program} {ops : Array Oper} {C : World → Prop} {Q Q' : Act → Prop} (hq : ∀ a, Q a → Q' a) : ∀ (l : List Oper) (a : Act), wpQuiet P ops C Q l a → wpQuiet P ops C Q' l a := by
    intro l
    induction l with
    | nil => exact fun a h => hq _ h
    | cons o l ih =>
      intro a h
      unfold wpQuiet at h ⊢
      split at h
      · rename_i hw
        rw [if_pos hw]
        obtain ⟨v, h1, h2⟩ := h
        exact ⟨v, h1, ih _ h2⟩
      · rename_i hw
        rw [if_neg hw]
        exact ih _ h
  marks_cons {base : Nat} {s s' : ASt} {a : Act} {w W : World} {ι ι' : Nat → Nat → Nat} {D : Nat} (hd : Marks base a w) (hg : Good s a w ι) (hm : Moves s s' w W ι ι') (hb : base ≤ D) (hD : w.heap.size ≤ D) (hK : W.heap[D]? = some (.deferred (some []))) :
      Marks base { a with defers := { target := .collected D, args := #[] } :: a.defers } W := by
    obtain ⟨Ds, h1, h2, h3⟩ := hd
    refine ⟨D :: Ds, List.nodup_cons.2 ⟨fun hmem => ?_, h1⟩, by rw [List.map_cons, ← h2], fun D' hD' => ?_⟩
    · have := (Array.getElem?_eq_some_iff.1 (h3 D hmem).2).1
      omega
    · rcases List.mem_cons.1 hD' with rfl | hD'
      · exact ⟨hb, hK⟩
      · obtain ⟨q1, q2⟩ := h3 D' hD'
        exact ⟨q1, by rw [hm.keep D' (Array.getElem?_eq_some_iff.1 q2).1 (not_own hg.lies q2 rfl)]; exact q2⟩
end
end Go.Rd
namespace Go.Rd
open Go.RowKit Go.Proofs
section
variable {P : Program} {T : TypeId → Option TI} {w : World} {ι : Nat → Nat → Nat} {st : ASt} {a : Act}
def cut (O : Store) (L : Nat) : Store := fun l b => if l < L then O l b else none
def pvsOf : List SV → Option (List PV)
  | [] => some []
  | .pv p :: r => match pvsOf r with
    | some ps => some (p :: ps)
    | none => none
  | _ :: _ => none
def capsPV (O : Store) (L : Nat) : List (Nat × Nat) → Option (List (List PV))
  | [] => some []
  | p :: r => if p.1 = L then match O p.1 p.2 with
    | some (.box _ cs) => match pvsOf cs with
      | some ps => match capsPV O L r with
        | some qs => some (ps :: qs)
        | none => none
      | none => none
    | _ => none
    else none
theorem pvsOf_map : ∀ {cs : List SV} {ps : List PV}, pvsOf cs = some ps → cs = ps.map .pv
  | [], ps, h => by simp only [pvsOf, Option.some.injEq] at h; subst h; rfl
  | c :: r, ps, h => by
    cases c with
    | pv p =>
      simp only [pvsOf] at h
      split at h
      · rename_i qs hq
        simp only [Option.some.injEq] at h
        subst h
        rw [List.map_cons, ← pvsOf_map hq]
      · cases h
    | _ => simp [pvsOf] at h
def SV.fz (O : Store) (L : Nat) : SV → SV
  | .sl l b off len => if l = L then (match O l b with
    | some (.row _ esz es) => .pv (.row esz ((es.drop off).take len))
    | _ => .undef) else .sl l b off len
  | .slc l b off len cap => if l = L then .undef else .slc l b off len cap
  | .pr l b i j => if l = L then .undef else .pr l b i j
  | .pb l b j => if l = L then .undef else .pb l b j
  | .clo f caps => if caps.any (fun p => p.1 == L) then (match capsPV O L caps with
    | some css => .pv (.clo f css)
    | none => .undef) else .clo f caps
  | x => x
def AV.fz (O : Store) (L : Nat) : AV → AV
  | .s x => .s (x.fz O L)
  | .agg xs => .agg (xs.map (·.fz O L))
  | x => x
def TV.fz (O : Store) (L : Nat) : TV → TV
  | .undef => .undef
  | .a x => .a (x.fz O L)
  | .tup xs => .tup (xs.map (·.fz O L))
def resK (T : TypeId → Option TI) (st : ASt) : List ResultVar → (List TV → Prop) → Prop
  | [], K => K []
  | .tmp t :: r, K => resK T st r fun vs => K (st.get t :: vs)
  | .cell ad t :: r, K => qLoad T st.O t (st.get ad) fun v => resK T st r fun vs => K (v :: vs)
def joinR (vs : List TV) : Option TV :=
  match vs with
  | [v] => some v
  | vs => (argsOf vs).map .tup
def exitVal (R : RV → Store → Prop) (st : ASt) (v : TV) : Prop := R (.val (v.fz st.O st.L)) (cut st.O st.L)
def exitOwn (R : RV → Store → Prop) (st : ASt) (v : TV) : Prop :=
  match v with
  | .a (.s (.sl l b off len)) => l = st.L ∧ off = 0 ∧ ∃ e esz es, st.O st.L b = some (.row e esz es) ∧ len = es.length ∧ R (.own e esz es) (cut st.O st.L)
  | _ => False
def retQ (T : TypeId → Option TI) (rs : List ResultVar) (X : ASt → TV → Prop) : Exit → ASt → Prop
  | .normal, st => resK T st rs fun vs => ∃ v, joinR vs = some v ∧ X st v
  | .ret, st => resK T st rs fun vs => ∃ v, joinR vs = some v ∧ X st v
  | _, _ => False
def tmOf : Nat → List AV → List (Nat × TV)
  | _, [] => []
  | k, v :: r => (k, .a v) :: tmOf (k + 1) r
theorem look_tmOf : ∀ (args : List AV) (k t : Nat), look (tmOf k args) t = if k ≤ t ∧ t < k + args.length then (match args[t - k]? with | some v => .a v | none => .undef) else .undef
  | [], k, t => by simp [tmOf, look]
  | v :: r, k, t => by
    simp only [tmOf, look]
    split
    · rename_i e
      subst e
      rw [if_pos (by simp)]
      simp
    · rename_i e
      rw [look_tmOf r (k + 1) t]
      by_cases h : k + 1 ≤ t ∧ t < k + 1 + r.length
      · rw [if_pos h, if_pos (by simp only [List.length_cons]; omega)]
        rw [show t - k = (t - (k + 1)) + 1 by omega]
        simp
      · rw [if_neg h, if_neg (by simp only [List.length_cons]; omega)]
theorem capsPV_spec {O : Store} {L : Nat} : ∀ {caps : List (Nat × Nat)} {css : List (List PV)}, capsPV O L caps = some css → caps.length = css.length ∧ ∀ (i : Nat) (cs : List PV), css[i]? = some cs → ∃ p e, caps[i]? = some p ∧ p.1 = L ∧ O L p.2 = some (.box e (cs.map .pv))
  | [], css, h => by simp only [capsPV, Option.some.injEq] at h; subst h; exact ⟨rfl, fun i cs hi => by simp at hi⟩
  | p :: r, css, h => by
    unfold capsPV at h
    split at h
    · rename_i hp
      split at h
      · rename_i e cs hb
        split at h
        · rename_i ps hps
          split at h
          · rename_i qs hqs
            simp only [Option.some.injEq] at h
            subst h
            obtain ⟨h1, h2⟩ := capsPV_spec hqs
            refine ⟨by simp [h1], fun i c hi => ?_⟩
            cases i with
            | zero =>
              simp only [List.getElem?_cons_zero, Option.some.injEq] at hi
              subst hi
              refine ⟨p, e, rfl, hp, ?_⟩
              rw [← pvsOf_map hps, ← hb, hp]
            | succ i =>
              obtain ⟨p', e', q1, q2, q3⟩ := h2 i c (by simpa using hi)
              exact ⟨p', e', by simpa using q1, q2, q3⟩
          · cases h
        · cases h
      · cases h
    · cases h
theorem RepP.mk_clo {G : Nat → Prop} {f : FuncId} {css : List (List PV)} {vs : List Value} (hl : vs.length = css.length)
    (h : ∀ (i : Nat) (cs : List PV), css[i]? = some cs → ∃ k, vs[i]? = some (.pointer (some ⟨k, 0, none⟩)) ∧ G k ∧ ∀ (j : Nat) (x : PV), cs[j]? = some x → ∃ u, w.cell? ⟨k, j, none⟩ = some u ∧ RepP w G x u) : RepP w G (.clo f css) (.func (.func f) #[] vs.toArray) := by
  have hb : ∀ (i : Nat) (cs : List PV), css[i]? = some cs → ∃ k, vs[i]? = some (.pointer (some ⟨k, 0, none⟩)) ∧ G k ∧ (match vs[i]? with | some (.pointer (some a)) => a.block | _ => 0) = k ∧ ∀ (j : Nat) (x : PV), cs[j]? = some x → ∃ u, w.cell? ⟨k, j, none⟩ = some u ∧ RepP w G x u := by
    intro i cs hi
    obtain ⟨k, h1, h2, h3⟩ := h i cs hi
    exact ⟨k, h1, h2, by rw [h1], h3⟩
  refine .clo f css vs (fun i => match vs[i]? with | some (.pointer (some a)) => a.block | _ => 0) (fun i j => (w.cell? ⟨match vs[i]? with | some (.pointer (some a)) => a.block | _ => 0, j, none⟩).getD undef) hl ?_ ?_ ?_
  · intro i cs hi
    obtain ⟨k, h1, h2, h3, _⟩ := hb i cs hi
    rw [h3]
    exact ⟨h1, h2⟩
  · intro i j cs x hi hx
    obtain ⟨k, h1, h2, h3, h4⟩ := hb i cs hi
    obtain ⟨u, hu, _⟩ := h4 j x hx
    rw [h3, hu]
    rfl
  · intro i j cs x hi hx
    obtain ⟨k, h1, h2, h3, h4⟩ := hb i cs hi
    obtain ⟨u, hu, hr⟩ := h4 j x hx
    rw [h3, hu]
    exact hr
theorem RepS.turn {G G' : Nat → Prop} {ι' : Nat → Nat → Nat} {O O' : Store} {m : Nat} {s : SV} {v : Value} (h : RepS w G ι O s v) (hG : ∀ k, G k → G' k)
    (ht : ∀ l b o, l ≤ m → O l b = some o → O' l b = some o ∧ ι' l b = ι l b) (hlev : s.lev ≤ m) : RepS w G' ι' O' s v := by
  cases s with
  | undef => exact h
  | pv p => exact RepP.mono h (fun k hk => ⟨hG k hk, rfl⟩)
  | pb l b j =>
    obtain ⟨⟨e1, cs, ho⟩, rfl⟩ := h
    obtain ⟨h1, h2⟩ := ht l b _ hlev ho
    exact ⟨⟨_, _, h1⟩, by rw [h2]⟩
  | pr l b i j =>
    obtain ⟨e1, esz1, es1, ho, rfl⟩ := h
    obtain ⟨h1, h2⟩ := ht l b _ hlev ho
    exact ⟨_, _, _, h1, by rw [h2]⟩
  | sl l b off len =>
    obtain ⟨e1, esz1, es1, cap, c, ho, rfl, q1, q2, q3, q4, q5⟩ := h
    obtain ⟨h1, h2⟩ := ht l b _ hlev ho
    exact ⟨_, _, _, cap, c, h1, by rw [h2], q1, q2, q3, by rw [h2]; exact q4, q5⟩
  | slc l b off len cap =>
    obtain ⟨e1, esz1, es1, c, ho, rfl, q2, q3, q4, q5⟩ := h
    obtain ⟨h1, h2⟩ := ht l b _ hlev ho
    exact ⟨_, _, _, c, h1, by rw [h2], q2, q3, by rw [h2]; exact q4, q5⟩
  | clo f caps =>
    obtain ⟨rfl, hc⟩ := h
    have hle : ∀ p ∈ caps, p.1 ≤ m := by
      intro p hp
      have : p.1 ≤ (SV.clo f caps).lev := by
        simp only [SV.lev]
        clear hlev hc
        induction caps with
        | nil => cases hp
        | cons q r ih =>
          simp only [List.foldr_cons]
          rcases List.mem_cons.1 hp with rfl | hp
          · omega
          · have := ih hp; omega
      omega
    refine ⟨?_, fun p hp => ?_⟩
    · congr 2
      refine List.map_congr_left fun p hp => ?_
      obtain ⟨e1, cs, ho⟩ := hc p hp
      rw [(ht _ _ _ (hle p hp) ho).2]
    · obtain ⟨e1, cs, ho⟩ := hc p hp
      exact ⟨_, _, (ht _ _ _ (hle p hp) ho).1⟩
theorem RepO.turn {G G' : Nat → Prop} {ι' : Nat → Nat → Nat} {O O' : Store} {m k : Nat} {o : AObj} (h : RepO w G ι O k o) (hG : ∀ k, G k → G' k)
    (ht : ∀ l b o, l ≤ m → O l b = some o → O' l b = some o ∧ ι' l b = ι l b) (hlev : ∀ e cs, o = .box e cs → ∀ s ∈ cs, s.lev ≤ m) : RepO w G' ι' O' k o := by
  cases o with
  | row e1 esz1 es1 =>
    obtain ⟨c, q1, q2, q3, q4, q5⟩ := h
    exact ⟨c, q1, q2, q3, q4, fun i j x y hx hy => by
      obtain ⟨u, hu, hr⟩ := q5 i j x y hx hy
      exact ⟨u, hu, hr.mono (fun k hk => ⟨hG k hk, rfl⟩)⟩⟩
  | box e1 cs =>
    obtain ⟨c, q1, q2, q3⟩ := h
    refine ⟨c, q1, q2, fun j y hy => ?_⟩
    obtain ⟨u, hu, hr⟩ := q3 j y hy
    exact ⟨u, hu, hr.turn hG ht (hlev e1 cs rfl y (List.mem_of_getElem? hy))⟩
theorem fz_rep (h : Good st a w ι) (_hL : 0 < st.L) {s : SV} {v : Value} (hr : RepS w (Gd w ι st.O) ι st.O s v) : RepS w (Gd w ι (cut st.O st.L)) ι (cut st.O st.L) (s.fz st.O st.L) v := by
  have hG : ∀ k, Gd w ι st.O k → Gd w ι (cut st.O st.L) k := by
    rintro k ⟨h1, h2⟩
    refine ⟨h1, fun ⟨l, b, o, h3, h4⟩ => h2 ?_⟩
    simp only [cut] at h3
    split at h3
    · exact ⟨l, b, o, h3, h4⟩
    · cases h3
  have ht : ∀ l b o, l ≤ st.L - 1 → st.O l b = some o → cut st.O st.L l b = some o ∧ ι l b = ι l b := by
    intro l b o hl ho
    refine ⟨?_, rfl⟩
    simp only [cut]
    rw [if_pos (by omega)]; exact ho
  have hone := hr.one
  cases s with
  | undef => exact hr
  | pv p => exact RepP.mono hr (fun k hk => ⟨hG k hk, rfl⟩)
  | sl l b off len =>
    simp only [SV.fz]
    have hle := RepS.lev_le h hr
    split
    · rename_i e
      subst e
      obtain ⟨e1, esz1, es1, cap, c, ho1, rfl, q1, q2, q3, q4, q5⟩ := hr
      simp only [ho1]
      obtain ⟨c', p1, p2, p3, p4, p5⟩ := h.lies.obj _ _ _ ho1
      rw [q4] at p1
      simp only [Option.some.injEq, Obj.cells.injEq, and_true] at p1
      obtain ⟨rfl, _⟩ := p1
      have hlen : ((es1.drop off).take len).length = len := by simp; omega
      have hrow : RowAt w (Gd w ι (cut st.O st.L)) esz1 ((es1.drop off).take len) (ι st.L b) (off * esz1) := by
        refine ⟨fun i x hx => ?_, fun _ => ⟨h.lies.lt ho1, fun ⟨l, c2, o', h3, h4⟩ => ?_⟩, by omega, fun i j x y hx hy => ?_⟩
        · rw [List.getElem?_take] at hx
          split at hx
          · rw [List.getElem?_drop] at hx; exact p2 _ x hx
          · cases hx
        · simp only [cut] at h3
          split at h3
          · obtain ⟨e1, _⟩ := h.lies.inj l c2 o' _ _ _ h3 ho1 h4
            omega
          · cases h3
        · rw [List.getElem?_take] at hx
          split at hx
          · rw [List.getElem?_drop] at hx
            obtain ⟨u, hu, hr⟩ := p5 _ j x y hx hy
            refine ⟨u, ?_, hr.mono (fun k hk => ⟨hG k hk, rfl⟩)⟩
            rw [cell_block q4, ← hu]
            congr 1
            rw [Nat.add_mul]
          · cases hx
      have := RepP.mk_row (cap := cap) (by omega) q3 hrow
      rw [hlen] at this
      exact this
    · exact hr.turn hG ht (by simp only [SV.lev] at hle ⊢; omega)
  | slc l b off len cap =>
    simp only [SV.fz]
    have hle := RepS.lev_le h hr
    split
    · exact hone
    · exact hr.turn hG ht (by simp only [SV.lev] at hle ⊢; omega)
  | pr l b i j =>
    simp only [SV.fz]
    have hle := RepS.lev_le h hr
    split
    · exact hone
    · exact hr.turn hG ht (by simp only [SV.lev] at hle ⊢; omega)
  | pb l b j =>
    simp only [SV.fz]
    have hle := RepS.lev_le h hr
    split
    · exact hone
    · exact hr.turn hG ht (by simp only [SV.lev] at hle ⊢; omega)
  | clo f caps =>
    simp only [SV.fz]
    have hle := RepS.lev_le h hr
    split
    · split
      · rename_i css hcss
        obtain ⟨rfl, hc⟩ := hr
        refine RepP.mk_clo (by simpa using (capsPV_spec hcss).1) fun i cs hi => ?_
        obtain ⟨p, e, q1, q2, q3⟩ := (capsPV_spec hcss).2 i cs hi
        obtain ⟨p1, p2⟩ := p
        simp only at q2
        subst q2
        obtain ⟨c, k1, k2, k3⟩ := h.lies.obj _ _ _ q3
        refine ⟨ι st.L p2, by rw [List.getElem?_map, q1]; rfl, ⟨h.lies.lt q3, fun ⟨l, c2, o', h3, h4⟩ => ?_⟩, fun j x hx => ?_⟩
        · simp only [cut] at h3
          split at h3
          · obtain ⟨e1, _⟩ := h.lies.inj l c2 o' _ _ _ h3 q3 h4
            omega
          · cases h3
        · obtain ⟨u, hu, hru⟩ := k3 j (.pv x) (by rw [List.getElem?_map, hx]; rfl)
          exact ⟨u, by rw [cell_block k1]; exact hu, RepP.mono hru (fun k hk => ⟨hG k hk, rfl⟩)⟩
      · exact hone
    · rename_i hany
      refine hr.turn hG ht ?_
      have hall : ∀ p ∈ caps, p.1 ≤ st.L - 1 := by
        intro p hp
        obtain ⟨_, hc⟩ := hr
        obtain ⟨e, cs, ho⟩ := hc p hp
        have h1 := h.sup _ _ _ ho
        have h2 : p.1 ≠ st.L := fun e => hany (List.any_eq_true.2 ⟨p, hp, by simp [e]⟩)
        omega
      simp only [SV.lev]
      clear hle hone hany hr
      induction caps with
      | nil => exact Nat.zero_le _
      | cons q r ih =>
        simp only [List.foldr_cons]
        have := hall q (by simp)
        have := ih (fun p hp => hall p (List.mem_cons_of_mem _ hp))
        omega
theorem fzA_rep (h : Good st a w ι) (hL : 0 < st.L) {s : AV} {v : Value} (hr : RepA w (Gd w ι st.O) ι st.O s v) : RepA w (Gd w ι (cut st.O st.L)) ι (cut st.O st.L) (s.fz st.O st.L) v := by
  cases s with
  | s x => exact fz_rep h hL hr
  | agg xs =>
    obtain ⟨cs, rfl, hl, hc⟩ := hr
    refine ⟨cs, rfl, by simpa using hl, fun j y hy => ?_⟩
    rw [List.getElem?_map] at hy
    cases hx : xs[j]? with
    | none => simp [hx] at hy
    | some x =>
      simp only [hx, Option.map_some, Option.some.injEq] at hy
      subst hy
      obtain ⟨u, hu, hr⟩ := hc j x hx
      exact ⟨u, hu, fz_rep h hL hr⟩
  | pel esz es i j =>
    obtain ⟨blk, off, hr, rfl⟩ := hr
    refine ⟨blk, off, hr.mono (fun k hk => ⟨⟨hk.1, fun ⟨l, b, o, h3, h4⟩ => hk.2 ?_⟩, rfl⟩), rfl⟩
    simp only [cut] at h3
    split at h3
    · exact ⟨l, b, o, h3, h4⟩
    · cases h3
theorem fzT_rep (h : Good st a w ι) (hL : 0 < st.L) {s : TV} {v : Value} (hr : RepT w (Gd w ι st.O) ι st.O s v) : RepT w (Gd w ι (cut st.O st.L)) ι (cut st.O st.L) (s.fz st.O st.L) v := by
  cases s with
  | undef => trivial
  | a x => exact fzA_rep h hL hr
  | tup xs =>
    obtain ⟨cs, rfl, hl, hc⟩ := hr
    refine ⟨cs, rfl, by simpa using hl, fun j y hy => ?_⟩
    rw [List.getElem?_map] at hy
    cases hx : xs[j]? with
    | none => simp [hx] at hy
    | some x =>
      simp only [hx, Option.map_some, Option.some.injEq] at hy
      subst hy
      obtain ⟨u, hu, hr⟩ := hc j x hx
      exact ⟨u, hu, fzA_rep h hL hr⟩
theorem resK_sound (hT : TOk P T) (h : Good st a w ι) : ∀ (rs : List ResultVar) {K : List TV → Prop}, resK T st rs K →
    ∃ vs vals, K vs ∧ vals.length = vs.length ∧ (∀ (i : Nat) (y : TV) (u : Value), vs[i]? = some y → vals[i]? = some u → RepT w (Gd w ι st.O) ι st.O y u) ∧
      ((rs.mapM fun | ResultVar.tmp t => (pure (a.tmps.getD t undef) : Sem Value) | ResultVar.cell ad t => do loadVar t (← asAddr (a.tmps.getD ad undef)))).run P w = .ok vals w
  | [], K, hk => ⟨[], [], hk, rfl, by simp, rfl⟩
  | .tmp t :: r, K, hk => by
    obtain ⟨vs, vals, h1, h2, h3, h4⟩ := resK_sound hT h r hk
    refine ⟨_, a.tmps.getD t undef :: vals, h1, by simp [h2], fun i y u hy hu => ?_, ?_⟩
    · cases i with
      | zero =>
        simp only [List.getElem?_cons_zero, Option.some.injEq] at hy hu
        subst hy; subst hu
        exact h.ev (.tmp t)
      | succ i => exact h3 i y u (by simpa using hy) (by simpa using hu)
    · simp only [List.mapM_cons, Sem.run_bind, Sem.run_pure, Result.andThen_ok, h4]
  | .cell ad t :: r, K, hk => by
    obtain ⟨v, val, h1, h2, h3⟩ := qLoad_sound (B := fun w' => Below w.heap.size w w') hT (fun _ h => h) h.lies (h.ev (.tmp ad)) hk
    obtain ⟨vs, vals, k1, k2, k3, k4⟩ := resK_sound hT h r h1
    refine ⟨_, val :: vals, k1, by simp [k2], fun i y u hy hu => ?_, ?_⟩
    · cases i with
      | zero =>
        simp only [List.getElem?_cons_zero, Option.some.injEq] at hy hu
        subst hy; subst hu
        exact h2
      | succ i => exact k3 i y u (by simpa using hy) (by simpa using hu)
    · have hl := h3 w (Below.refl _ _)
      have he : a.eval (.tmp ad) = a.tmps.getD ad undef := rfl
      rw [he] at hl
      have hsame : (do loadVar t (← asAddr (a.tmps.getD ad undef)) : Sem Value).run P w = .ok val w := by
        revert hl
        cases a.tmps.getD ad undef with
        | pointer p =>
          cases p with
          | some q => intro hl; simpa [Instr.loadAt, Instr.sureAddr, asAddr] using hl
          | none => intro hl; simp [Instr.loadAt, Instr.sureAddr, stuck] at hl
        | _ => intro hl; simp [Instr.loadAt, Instr.sureAddr, stuck] at hl
      simp only [List.mapM_cons]
      rw [Sem.run_bind, hsame]
      simp only [Result.andThen_ok, Sem.run_bind, k4, Sem.run_pure]
def Hands (X : (RV → Store → Prop) → ASt → TV → Prop) : Prop :=
  ∀ (R : RV → Store → Prop) (st : ASt) (v : TV), X R st v → ∀ (a : Act) (w : World) (ι : Nat → Nat → Nat) (val : Value), Good st a w ι → 0 < st.L → RepT w (Gd w ι st.O) ι st.O v val →
    ∃ r S' ι', R r S' ∧ S' = cut st.O st.L ∧ Lies w ι' (r.store st.L S') ∧ (∀ l b o, r.store st.L S' l b = some o → ∃ l2 b2 o2, st.O l2 b2 = some o2 ∧ ι l2 b2 = ι' l b) ∧
      (∀ l b, l < st.L → ι' l b = ι l b ∧ r.store st.L S' l b = st.O l b) ∧ RepT w (Gd w ι' (r.store st.L S')) ι' (r.store st.L S') (r.tv st.L) val
theorem lies_cut (h : Good st a w ι) (hL : 0 < st.L) : Lies w ι (cut st.O st.L) := by
  have hG : ∀ k, Gd w ι st.O k → Gd w ι (cut st.O st.L) k := by
    rintro k ⟨h1, h2⟩
    refine ⟨h1, fun ⟨l, b, o, h3, h4⟩ => h2 ?_⟩
    simp only [cut] at h3
    split at h3
    · exact ⟨l, b, o, h3, h4⟩
    · cases h3
  refine ⟨fun l b o ho => ?_, fun l b o l2 b2 o2 h1 h2 e => ?_⟩
  · simp only [cut] at ho
    split at ho
    · rename_i hl
      refine (h.lies.obj l b o ho).turn (m := st.L - 1) hG (fun l b o hl ho => ⟨by simp only [cut]; rw [if_pos (by omega)]; exact ho, rfl⟩) ?_
      rintro e cs rfl s hs
      have := h.lev l b e cs ho s hs
      omega
    · cases ho
  · simp only [cut] at h1 h2
    split at h1
    · split at h2
      · exact h.lies.inj _ _ _ _ _ _ h1 h2 e
      · cases h2
    · cases h1
theorem hands_val : Hands exitVal := by
  intro R st v hx a w ι val h hL hr
  refine ⟨_, _, ι, hx, rfl, lies_cut h hL, fun l b o ho => ?_, fun l b hl => ⟨rfl, ?_⟩, fzT_rep h hL hr⟩
  · have ho' : cut st.O st.L l b = some o := ho
    simp only [cut] at ho'
    split at ho'
    · exact ⟨l, b, o, ho', rfl⟩
    · cases ho'
  · show cut st.O st.L l b = _
    simp only [cut]; rw [if_pos hl]
theorem export_row (h : Good st a w ι) (hL : 0 < st.L) {b : Nat} {e : TypeId} {esz : Nat} {es : List (List PV)} (ho : st.O st.L b = some (.row e esz es)) :
    Lies w (iupd ι st.L 0 (ι st.L b)) (upd (cut st.O st.L) st.L 0 (some (.row e esz es))) ∧
    (∀ l c o, upd (cut st.O st.L) st.L 0 (some (.row e esz es)) l c = some o → ∃ l2 b2 o2, st.O l2 b2 = some o2 ∧ ι l2 b2 = iupd ι st.L 0 (ι st.L b) l c) ∧
    (∀ k, Gd w ι st.O k → Gd w (iupd ι st.L 0 (ι st.L b)) (upd (cut st.O st.L) st.L 0 (some (.row e esz es))) k) := by
  have hlow : ∀ l c o, cut st.O st.L l c = some o → l < st.L ∧ st.O l c = some o := by
    intro l c o hc
    simp only [cut] at hc
    split at hc
    · rename_i hl; exact ⟨hl, hc⟩
    · cases hc
  have hback : ∀ l c o, upd (cut st.O st.L) st.L 0 (some (.row e esz es)) l c = some o → ∃ l2 b2 o2, st.O l2 b2 = some o2 ∧ ι l2 b2 = iupd ι st.L 0 (ι st.L b) l c ∧ ((l = st.L ∧ c = 0 ∧ l2 = st.L ∧ b2 = b) ∨ (l2 = l ∧ b2 = c ∧ l < st.L)) := by
    intro l c o hc
    by_cases q : l = st.L ∧ c = 0
    · obtain ⟨rfl, rfl⟩ := q
      exact ⟨_, _, _, ho, by rw [iupd_same], .inl ⟨rfl, rfl, rfl, rfl⟩⟩
    · rw [upd_ne _ _ q] at hc
      obtain ⟨h1, h2⟩ := hlow l c o hc
      exact ⟨l, c, o, h2, by rw [iupd_ne _ _ q], .inr ⟨rfl, rfl, h1⟩⟩
  have hG : ∀ k, Gd w ι st.O k → Gd w (iupd ι st.L 0 (ι st.L b)) (upd (cut st.O st.L) st.L 0 (some (.row e esz es))) k := by
    rintro k ⟨h1, h2⟩
    refine ⟨h1, fun ⟨l, c, o, h3, h4⟩ => h2 ?_⟩
    obtain ⟨l2, b2, o2, q1, q2, _⟩ := hback l c o h3
    exact ⟨l2, b2, o2, q1, q2.trans h4⟩
  refine ⟨⟨fun l c o hc => ?_, fun l c o l2 c2 o2 h1 h2 q => ?_⟩, fun l c o hc => ?_, hG⟩
  · have ht : ∀ l b2 o, l ≤ st.L - 1 → st.O l b2 = some o → upd (cut st.O st.L) st.L 0 (some (.row e esz es)) l b2 = some o ∧ iupd ι st.L 0 (ι st.L b) l b2 = ι l b2 := by
      intro l b2 o hl ho
      refine ⟨?_, iupd_ne _ _ (by omega)⟩
      rw [upd_ne _ _ (by omega)]
      simp only [cut]
      rw [if_pos (by omega)]; exact ho
    by_cases q : l = st.L ∧ c = 0
    · obtain ⟨rfl, rfl⟩ := q
      rw [upd_same] at hc
      cases hc
      rw [iupd_same]
      exact (h.lies.obj _ _ _ ho).turn (m := st.L - 1) hG ht (fun _ _ h => by cases h)
    · rw [upd_ne _ _ q] at hc
      rw [iupd_ne _ _ q]
      obtain ⟨h1, h2⟩ := hlow l c o hc
      refine (h.lies.obj l c o h2).turn (m := st.L - 1) hG ht ?_
      rintro e' cs rfl s hs
      have := h.lev l c e' cs h2 s hs
      omega
  · obtain ⟨a1, a2, a3, q1, q2, q3⟩ := hback l c o h1
    obtain ⟨b1, b2, b3, r1, r2, r3⟩ := hback l2 c2 o2 h2
    rw [← q2, ← r2] at q
    obtain ⟨e1, e2⟩ := h.lies.inj _ _ _ _ _ _ q1 r1 q
    rcases q3 with ⟨x1, x2, x3, x4⟩ | ⟨x1, x2, x3⟩ <;> rcases r3 with ⟨y1, y2, y3, y4⟩ | ⟨y1, y2, y3⟩
    · exact ⟨x1.trans y1.symm, x2.trans y2.symm⟩
    · omega
    · omega
    · exact ⟨x1.symm.trans (e1.trans y1), x2.symm.trans (e2.trans y2)⟩
  · obtain ⟨l2, b2, o2, q1, q2, _⟩ := hback l c o hc
    exact ⟨l2, b2, o2, q1, q2⟩
theorem hands_own : Hands exitOwn := by
  intro R st v hx a w ι val h hL hr
  unfold exitOwn at hx
  split at hx
  · rename_i l b off len
    obtain ⟨rfl, rfl, e, esz, es, ho, rfl, hR⟩ := hx
    obtain ⟨x1, x2, x3⟩ := export_row h hL ho
    refine ⟨_, _, _, hR, rfl, x1, x2, fun l c hl => ⟨iupd_ne _ _ (by omega), ?_⟩, ?_⟩
    · show upd (cut st.O st.L) st.L 0 _ l c = _
      rw [upd_ne _ _ (by omega)]
      simp only [cut]; rw [if_pos hl]
    · obtain ⟨e1, esz1, es1, cap, c, ho1, rfl, q1, q2, q3, q4, q5⟩ := hr
      rw [ho] at ho1
      simp only [Option.some.injEq, AObj.row.injEq] at ho1
      obtain ⟨rfl, rfl, rfl⟩ := ho1
      exact ⟨_, _, _, cap, c, upd_same _ _ _ _, by rw [iupd_same], q1, q2, q3, by rw [iupd_same]; exact q4, q5⟩
  · exact hx.elim
structure Turned (base : Nat) (w w' : World) : Prop where
  os : w'.os = w.os
  tape : w'.tape = w.tape
  output : w'.output = w.output
  keep : ∀ k, k < base → w'.heap[k]? = w.heap[k]?
  cel : Cel w w'
theorem Turned.refl (base : Nat) (w : World) : Turned base w w := ⟨rfl, rfl, rfl, fun _ _ => rfl, Cel.refl w⟩
theorem Turned.trans {base : Nat} {w1 w2 w3 : World} (h : Turned base w1 w2) (k : Turned base w2 w3) : Turned base w1 w3 :=
  ⟨k.os.trans h.os, k.tape.trans h.tape, k.output.trans h.output, fun q hq => (k.keep q hq).trans (h.keep q hq), h.cel.trans k.cel⟩
theorem Turned.putObj {base D : Nat} {o o' : Obj} (h : w.heap[D]? = some o) (hc : o.isCells = false) (hb : base ≤ D) : Turned base w (w.putObj D o') :=
  ⟨rfl, rfl, rfl, fun k hk => World.putObj_heap_other (by omega), Cel.putObj h hc⟩
theorem Moves.turned {s s' : ASt} {W W' : World} {ι' : Nat → Nat → Nat} (h : Moves s s' w W ι ι') (ht : Turned w.heap.size W W') : Moves s s' w W' ι ι' := by
  refine ⟨h.L, h.n, ht.os.trans h.os, ht.tape.trans h.tape, ht.output.trans h.output, Nat.le_trans h.size ht.cel.size, fun k hk ho => ?_, h.own, h.low, fun l b o c e hl ho hcc => ?_⟩
  · rw [ht.keep k hk]
    exact h.keep k hk ho
  · obtain ⟨c', h1, h2⟩ := h.roomy l b o c e hl ho hcc
    exact ⟨c', ht.cel.same _ _ _ _ h1, h2⟩
theorem leaves_marks {fn : Func} {tmps : Array Value} {R : Ending → World → Prop} {base : Nat} : ∀ (Ds : List Nat) {w1 : World}, Ds.Nodup → (∀ D ∈ Ds, base ≤ D ∧ w1.heap[D]? = some (.deferred (some []))) →
    (∀ w', Turned base w1 w' → ∃ v, (results fn tmps).run P w' = .ok v w' ∧ R (.returned v) w') → LeavesInM Fence.wide 3 P fn tmps R (Ds.map fun D => { target := .collected D, args := #[] }) .returning w1
  | [], w1, _, _, h => h w1 (Turned.refl _ _)
  | D :: Ds, w1, hn, hD, h => by
    rw [List.nodup_cons] at hn
    obtain ⟨q1, q2⟩ := hD D (by simp)
    refine ⟨by simp, .inl ⟨D, _, rfl, run_takeDeferred q2, leaves_marks Ds hn.2 (fun D' hD' => ⟨(hD D' (by simp [hD'])).1, ?_⟩) fun w' ht => h w' ((Turned.putObj q2 rfl q1).trans ht)⟩⟩
    rw [World.putObj_heap_other (fun e => hn.1 (by rw [← e]; exact hD'))]
    exact (hD D' (by simp [hD'])).2
theorem leavesM {fn : Func} {R : Ending → World → Prop} {base : Nat} {w1 : World} (hm : Marks base a w1) {e : Exit} (he : e = .normal ∨ e = .ret)
    (h : ∀ w', Turned base w1 w' → ∃ v, (results fn a.tmps).run P w' = .ok v w' ∧ R (.returned v) w') : bodyPostM Fence.wide 3 P fn R e a w1 := by
  obtain ⟨Ds, h1, h2, h3⟩ := hm
  have := leaves_marks (fn := fn) (tmps := a.tmps) (R := R) Ds h1 h3 h
  rw [← h2] at this
  rcases he with rfl | rfl <;> exact this
theorem fn_AC {X : (RV → Store → Prop) → ASt → TV → Prop} (hX : Hands X) (hT : TOk P T) (hm : P.follows .mixedOrders = true) {f : FuncId} {fn : Func} {c : Code} (hf : P.funcs[f]? = some fn) (hb : fn.body = some c)
    (hname : (fn.name == "runtime.NumGoroutine") = false) {L : Nat} (hL : 0 < L) {args : List AV} (hn : args.length ≤ fn.ntmps) {S : Store} {R : RV → Store → Prop}
    (h : Sup S L → awp P T false c (retQ T fn.results.toList (X R)) { L := L, n := fn.ntmps, tm := tmOf 0 args, O := S }) : AC P L f args S R := by
  refine ⟨enters_of hf hname hb, fun w ι vals hsup hlev hlies hlen hargs => ?_⟩
  refine callsIn_wide.1 (callsIn_of_wp_marks (n := 3) hf hb trivial ?_)
  have hlook : ∀ t, look (tmOf 0 args) t = match args[t]? with | some v => .a v | none => .undef := by
    intro t
    rw [look_tmOf]
    by_cases ht : t < args.length
    · rw [if_pos (by omega)]; simp
    · rw [if_neg (by omega), List.getElem?_eq_none (by omega)]
  have hgood : Good { L := L, n := fn.ntmps, tm := tmOf 0 args, O := S } { tmps := vals.toArray ++ Array.replicate (fn.ntmps - vals.toArray.size) undef, defers := [] } w ι := by
    refine ⟨⟨hlies, by simp; omega, fun t ht => ?_, fun t ht => ?_⟩, fun l b o ho => ?_, hlev⟩
    · show RepT _ _ _ _ (look (tmOf 0 args) t) _
      rw [hlook]
      rcases Nat.lt_or_ge t args.length with h1 | h1
      · rw [List.getElem?_eq_getElem h1]
        have hv : vals[t]? = some vals[t] := List.getElem?_eq_getElem (by omega)
        have := hargs t args[t] vals[t] (List.getElem?_eq_getElem h1) hv
        rw [Array.getD_eq_getD_getElem?, Array.getElem?_append_left (by simp; omega)]
        show RepA _ _ _ _ _ _
        have e1 : (vals.toArray[t]?).getD undef = vals[t] := by simp [hv]
        rw [e1]; exact this
      · rw [List.getElem?_eq_none h1]; trivial
    · show look (tmOf 0 args) t = _
      have ht' : fn.ntmps ≤ t := ht
      rw [hlook, List.getElem?_eq_none (by omega)]
    · rcases Nat.lt_or_ge l L with h1 | h1
      · exact Nat.le_of_lt h1
      · have ho' : S l b = some o := ho
        rw [hsup l b h1] at ho'; cases ho'
  refine wpIn_mono (awp_sound hT hm (rd := false) rfl c (base := w.heap.size) hgood (Marks.nil rfl) (Nat.le_refl _) (h hsup)) ?_
  rintro e a' w1 ⟨st', ι', hq, hg1, hmv1, hmk, _⟩
  have he : e = .normal ∨ e = .ret := by cases e <;> first | exact .inl rfl | exact .inr rfl | exact hq.elim
  have hres : resK T st' fn.results.toList (fun vs => ∃ v, joinR vs = some v ∧ X R st' v) := by cases e <;> first | exact hq | exact hq.elim
  refine leavesM hmk he (fun w' htu => ?_)
  have hg := hg1.cel htu.cel
  have hmv := hmv1.turned htu
  have hLst : st'.L = L := hmv.L
  have done : resK T st' fn.results.toList (fun vs => ∃ v, joinR vs = some v ∧ X R st' v) → ∃ v, (results fn a'.tmps).run P w' = .ok v w' ∧
      ∃ r S' v2 ι2, R r S' ∧ Ending.returned v = .returned v2 ∧ Sup S' L ∧ Lev S' ∧ Lies w' ι2 (r.store L S') ∧ MovesS L S (r.store L S') w w' ι ι2 ∧ RepT w' (Gd w' ι2 (r.store L S')) ι2 (r.store L S') (r.tv L) v2 := by
    intro hres
    obtain ⟨vs, vals', ⟨v, hj, hx⟩, hl', hr', hrun⟩ := resK_sound hT hg fn.results.toList hres
    have hval : ∃ val, (results fn a'.tmps).run P w' = .ok val w' ∧ RepT w' (Gd w' ι' st'.O) ι' st'.O v val := by
      have hrun2 : (fn.results.mapM fun | ResultVar.tmp t => (pure (a'.tmps.getD t undef) : Sem Value) | ResultVar.cell ad t => do loadVar t (← asAddr (a'.tmps.getD ad undef))).run P w' = .ok vals'.toArray w' := by
        rw [Array.mapM_eq_mapM_toList]
        rw [run_map_toArray, hrun]
        rfl
      have hR : (results fn a'.tmps).run P w' = (Result.ok vals'.toArray w').andThen fun (r : Array Value) w1 => (pure (if h : r.size = 1 then r[0] else Value.tuple r) : Sem Value).run P w1 := by
        unfold results
        rw [Sem.run_bind]
        exact congrArg (fun (x : Result (Array Value)) => x.andThen fun (r : Array Value) w1 => (pure (if h : r.size = 1 then r[0] else Value.tuple r) : Sem Value).run P w1) hrun2
      unfold joinR at hj
      split at hj
      · rename_i v1
        simp only [Option.some.injEq] at hj
        subst hj
        obtain ⟨u, rfl⟩ := List.length_eq_one_iff.1 hl'
        refine ⟨u, ?_, hr' 0 v1 u rfl rfl⟩
        rw [hR]
        rfl
      · rename_i hne
        cases ha : argsOf vs with
        | none => simp [ha] at hj
        | some avs =>
          simp only [ha, Option.map_some, Option.some.injEq] at hj
          subst hj
          obtain ⟨k1, k2⟩ := argsOf_rep ha hl' hr'
          refine ⟨.tuple vals'.toArray, ?_, ⟨vals'.toArray, rfl, by simp [k1], fun j y hy => ?_⟩⟩
          · rw [hR, Result.andThen_ok]
            have : vals'.toArray.size ≠ 1 := by
              intro h1
              have : vs.length = 1 := by rw [← hl']; simpa using h1
              obtain ⟨v1, rfl⟩ := List.length_eq_one_iff.1 this
              exact hne v1 rfl
            simp only [this, dite_false, Sem.run_pure]
          · have hlt : j < vals'.length := by rw [← k1]; exact (List.getElem?_eq_some_iff.1 hy).1
            exact ⟨vals'[j], by simp [hlt], k2 j y _ hy (List.getElem?_eq_getElem hlt)⟩
    obtain ⟨val, hval, hrep⟩ := hval
    obtain ⟨r, S', ι2, q1, q2, q3, q4, q5, q6⟩ := hX R st' v hx a' w' ι' val hg (by omega) hrep
    refine ⟨val, hval, r, S', val, ι2, q1, rfl, ?_, ?_, by rw [← hLst]; exact q3, ?_, by rw [← hLst]; exact q6⟩
    · intro l b hl
      rw [q2]
      simp only [cut]
      rw [if_neg (by omega)]
    · intro l b e1 cs ho s hs
      rw [q2] at ho
      simp only [cut] at ho
      split at ho
      · exact hg.lev l b e1 cs ho s hs
      · cases ho
    · rw [← hLst]
      refine ⟨hmv.os, hmv.tape, hmv.output, hmv.size, hmv.keep, fun l b o ho => ?_, fun l b o hl ho => ?_, fun l b o c1 e1 hl ho hc => hmv.roomy l b o c1 e1 (by rw [← hmv.L]; exact hl) ho hc⟩
      · obtain ⟨l2, b2, o2, k1, k2⟩ := q4 l b o ho
        rw [← k2]
        exact hmv.own l2 b2 o2 k1
      · obtain ⟨o', k1, k2, k3⟩ := hmv.low l b o (by rw [← hmv.L]; exact hl) ho
        obtain ⟨k4, k5⟩ := q5 l b hl
        exact ⟨o', by rw [k5]; exact k1, k2, k4.trans k3⟩
  exact done hres
where
  run_map_toArray {P : Program} {w : World} {α : Type} (s : Sem (List α)) : (List.toArray <$> s).run P w = (s.run P w).andThen fun l w' => .ok l.toArray w' := by
    rw [map_eq_pure_bind, Sem.run_bind]
    rfl
end
end Go.Rd
