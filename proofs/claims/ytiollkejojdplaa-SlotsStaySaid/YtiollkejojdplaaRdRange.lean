/- RD, part 14b: the machine runs what is owed; a loop over a function. -/
import Derived.Test.YtiollkejojdplaaRdRun
namespace Go.Rd
open Go.RowKit Go.Proofs

section
variable {P : Program} {T : TypeId → Option TI} {w : World} {ι : Nat → Nat → Nat} {st : ASt} {a : Act}

/-- How a round may be left. -/
def rfPost (B : Nat) (Kp : World → World → Prop) (I : World → Prop) (Ix : Code → World → Prop) (W : World) : Exit → Act → World → Prop
  | .normal, _, W' => KeepsFrom B W W' ∧ Kp W W' ∧ I W'
  | .ret, _, W' => KeepsFrom B W W' ∧ Ix .ret W'
  | .exit id, _, W' => KeepsFrom B W W' ∧ Ix (.exit id) W'
  | _, _, _ => False

/-- A loop over a function whose rounds are numbered (the kit's law, by number). -/
theorem rf_law {g : Operand} {ps : Array Tmp} {assign body : Code} {Q : Exit → Act → World → Prop} {gf : Nat} {vs : Array Value} (hg : a.eval g = .func (.func gf) #[] vs) (eg : Enters P gf) {Kp : World → World → Prop} (ys : List (Array Value))
    (hit : ∀ (l : Nat) (J : Nat → World → Prop) (Jx : World → Prop) (W : World), Below w.heap.size w W → AbidesFrom W.heap.size J → AbidesFrom W.heap.size (fun (_ : Unit) W => Jx W) →
        (∀ (k : Nat) (y : Array Value) (W1 : World), ys[k]? = some y → J k W1 → YieldAt Fence.wide 1 P l y W1 fun e W' =>
          (e = .returned (.bool true) ∧ J (k + 1) W' ∧ Kp W1 W') ∨ (e = .returned (.bool false) ∧ Jx W')) →
        J 0 W → Calls P gf (#[.func (.yield l) #[] #[]] ++ vs) W fun e W' => (∃ v, e = .returned v) ∧ (J ys.length W' ∨ Jx W'))
    (hKt : ∀ {A B C : World}, Kp A B → Kp B C → Kp A C) (hKb : ∀ (W : World) (l : Nat) (o o' : Obj), w.heap.size ≤ l → W.heap[l]? = some o → o.isCells = false → Kp W (W.putObj l o'))
    (hps : ∀ y ∈ ys, y.size = ps.size) (I : Nat → World → Prop) (Ix : Code → World → Prop) (hI : OwnFrom w.heap.size I) (hIx : ∀ c, OwnFrom w.heap.size (fun (_ : Unit) W => Ix c W)) (h0 : I 0 w) (a₁ : Array Value → Act)
    (hassign : ∀ (l : Nat) (y : Array Value) (W : World) (K : Act → World → Prop), y ∈ ys → K (a₁ y) W →
      assign.wpIn (Fence.wide.inRound l) 1 P (Exit.then K (fun _ _ _ => False)) { tmps := (ps.zip y).foldl (fun t (p, v) => t.setIfInBounds p v) a.tmps, defers := [] } W)
    (hbody : ∀ (l k : Nat) (y : Array Value) (W : World), ys[k]? = some y → I k W → body.wpIn (Fence.wide.inRound l) 1 P (rfPost w.heap.size Kp (I (k + 1)) Ix W) (a₁ y) W)
    (hdone : ∀ (D : Nat) (W : World), w.heap.size ≤ D → I ys.length W → W.heap[D]? = some (.deferred (some [])) → Q .normal { a with defers := { target := .collected D, args := #[] } :: a.defers } W)
    (hstop : ∀ (D : Nat) (c : Code) (W : World), w.heap.size ≤ D → Ix c W → W.heap[D]? = some (.deferred (some [])) → c.wpIn Fence.wide 3 P Q { a with defers := { target := .collected D, args := #[] } :: a.defers } W) :
    (Code.rangeFunc g ps assign body).wpIn Fence.wide 3 P Q a w := by
  refine wpIn_rangeFunc ?_
  intro fn hfn
  rw [show Fence.wide.round = none from rfl]
  obtain ⟨rec, hrec⟩ : ∃ rec : LoopState → Option Code → Loop, rec = fun st pe => { state := st, pending := pe, fn, tmps := a.tmps, params := ps, assign, body, defers := w.heap.size } := ⟨_, rfl⟩
  obtain ⟨W1, hW1⟩ : ∃ W1, (w.alloc (.deferred (some []))).alloc (.loop (rec .ready none)) = W1 := ⟨_, rfl⟩
  have hL1 : W1.heap[w.heap.size + 1]? = some (.loop (rec .ready none)) := by
    rw [← hW1]; have := World.alloc_heap_new (w.alloc (.deferred (some []))) (.loop (rec .ready none)); rwa [World.size_alloc] at this
  have hK1 : W1.heap[w.heap.size]? = some (.deferred (some [])) := by
    rw [← hW1]; exact (Below.heap_alloc _ _ _ (by simp)).trans (World.alloc_heap_new w _)
  have hI1 : I 0 W1 := by rw [← hW1]; exact hI.alloc _ (hI.alloc _ h0)
  have hb1 : Below w.heap.size w W1 := by
    rw [← hW1]; exact ((Below.refl _ w).alloc (Nat.le_refl _) _).alloc (by simp) _
  refine ⟨w.heap.size + 1, [{ target := .collected w.heap.size, args := #[] }], W1, { target := .fn (.func gf) vs, args := #[.func (.yield (w.heap.size + 1)) #[] #[]] }, W1, gf,
    #[.func (.yield (w.heap.size + 1)) #[] #[]] ++ vs, W1, ?_, ?_, ?_, ?_, fun h => (by cases h), ?_⟩
  · rw [← hW1, hrec]; exact run_enterLoop_outer _ _ _ _ _
  · simp only [resolve, hg]
    simp [go_sem]
  · intro f' hf'; trivial
  · simp [invoke, go_sem]
    exact eg _ _
  · have hnw : ∀ {A B : World} {row : Option Nat}, (∀ r, row = some r → W1.heap.size ≤ r ∧ ∃ o : Obj, A.heap[r]? = some o ∧ o.isWalk = true) → (∀ r, row = some r → w.heap.size ≤ r ∧ ∃ o : Obj, A.heap[r]? = some o ∧ o.isCells = false) :=
      fun hr r e => by obtain ⟨hB, o, ho, hw⟩ := hr r e; exact ⟨by rw [← hW1] at hB; simp at hB; omega, o, ho, Obj.not_cells_of_walk hw⟩
    refine callsIn_wide.2 ((hit (w.heap.size + 1)
      (fun k W => I k W ∧ W.heap[w.heap.size + 1]? = some (.loop (rec .ready none)) ∧ W.heap[w.heap.size]? = some (.deferred (some [])))
      (fun W => ∃ c, Ix c W ∧ W.heap[w.heap.size + 1]? = some (.loop (rec .done (some c))) ∧ W.heap[w.heap.size]? = some (.deferred (some [])))
      W1 hb1
      (fun s A B row hs hg' hr => ⟨hI s A B row hs.1 hg' (hnw (B := B) hr), (grownBy_keeps hg' (fun r e => (hr r e).2) hs.2.1 rfl).trans hs.2.1, (grownBy_keeps hg' (fun r e => (hr r e).2) hs.2.2 rfl).trans hs.2.2⟩)
      (fun s A B row hs hg' hr => by
        obtain ⟨c, hc, hl, hk⟩ := hs
        exact ⟨c, hIx c s A B row hc hg' (hnw (B := B) hr), (grownBy_keeps hg' (fun r e => (hr r e).2) hl rfl).trans hl, (grownBy_keeps hg' (fun r e => (hr r e).2) hk rfl).trans hk⟩)
      ?_ ⟨hI1, hL1, hK1⟩).mono ?_)
    · rintro k y W hky ⟨hi, hl, hk⟩
      have hmem : y ∈ ys := List.mem_of_getElem? hky
      have hlt : w.heap.size + 1 < W.heap.size := (Array.getElem?_eq_some_iff.1 hl).1
      have hy := run_yield (P := P) (args := y) hl (by rw [hrec]; exact hps y hmem)
      rw [hrec] at hy
      refine ⟨fn, _, assign, body, hy, roundIn_of_wpIn hfn (hassign _ y W _ hmem ⟨_, run_beginRound hl (by rw [hrec]), ?_⟩)⟩
      have hl2 : (W.putObj (w.heap.size + 1) (.loop { rec .ready none with state := .busy })).heap[w.heap.size + 1]? = some (.loop { rec .ready none with state := .busy }) := World.putObj_heap_same hlt
      have hk2 : (W.putObj (w.heap.size + 1) (.loop { rec .ready none with state := .busy })).heap[w.heap.size]? = some (.deferred (some [])) := (World.putObj_heap_other (by omega)).trans hk
      have hw2 : Kp W (W.putObj (w.heap.size + 1) (.loop { rec .ready none with state := .busy })) := hKb _ _ _ _ (by omega) hl rfl
      refine wpIn_mono (hbody _ k y _ hky (hI.putObj _ hi (by omega) hl rfl)) ?_
      have fin : ∀ (jump : Option Code) (W3 : World), KeepsFrom w.heap.size (W.putObj (w.heap.size + 1) (.loop { rec .ready none with state := .busy })) W3 →
          (Instr.endRound (w.heap.size + 1) jump).run P W3 = .ok (.bool jump.isNone) (W3.putObj (w.heap.size + 1) (.loop (rec (if jump.isNone then .ready else .done) jump))) ∧
          W3.heap[w.heap.size + 1]? = some (.loop { rec .ready none with state := .busy }) ∧
          (W3.putObj (w.heap.size + 1) (.loop (rec (if jump.isNone then .ready else .done) jump))).heap[w.heap.size + 1]? = some (.loop (rec (if jump.isNone then .ready else .done) jump)) ∧
          (W3.putObj (w.heap.size + 1) (.loop (rec (if jump.isNone then .ready else .done) jump))).heap[w.heap.size]? = some (.deferred (some [])) := fun jump W3 hk3 => by
        have hl3 := hk3.same _ _ (by omega) hl2 rfl
        have := run_endRound (P := P) jump hl3
        rw [hrec] at this ⊢
        exact ⟨this, by rw [hrec] at hl3; exact hl3, World.putObj_heap_same (Array.getElem?_eq_some_iff.1 hl3).1, (World.putObj_heap_other (by omega)).trans (hk3.same _ _ (Nat.le_refl _) hk2 rfl)⟩
      rintro e a3 W3 hp
      cases e with
      | normal =>
        obtain ⟨hk3, hkp3, hi3⟩ := hp
        obtain ⟨hr, hl3, hl4, hk4⟩ := fin none W3 hk3
        exact ⟨_, _, hr, .inl ⟨rfl, ⟨hI.putObj _ hi3 (by omega) hl3 rfl, hl4, hk4⟩, hKt (hKt hw2 hkp3) (hKb _ _ _ _ (by omega) hl3 rfl)⟩⟩
      | ret =>
        obtain ⟨hk3, hi3⟩ := hp
        obtain ⟨hr, hl3, hl4, hk4⟩ := fin (some .ret) W3 hk3
        exact ⟨_, _, hr, .inr ⟨rfl, .ret, (hIx _).putObj (s := ()) _ hi3 (by omega) hl3 rfl, hl4, hk4⟩⟩
      | exit id =>
        obtain ⟨hk3, hi3⟩ := hp
        obtain ⟨hr, hl3, hl4, hk4⟩ := fin (some (.exit id)) W3 hk3
        exact ⟨_, _, hr, .inr ⟨rfl, .exit id, (hIx _).putObj (s := ()) _ hi3 (by omega) hl3 rfl, hl4, hk4⟩⟩
      | goto t => exact hp.elim
      | panic ch => exact hp.elim
      | outgrown => exact hp.elim
    · rintro e W2 ⟨⟨v, rfl⟩, (⟨hi, hl, hk⟩ | ⟨c, hi, hl, hk⟩)⟩
      · exact ⟨none, _, by have := run_endLoop (P := P) hl (by rw [hrec]; simp); rw [hrec] at this; exact this, hdone _ _ (Nat.le_refl _) (hI.putObj _ hi (by omega) hl rfl) ((World.putObj_heap_other (by omega)).trans hk)⟩
      · exact ⟨some c, _, by have := run_endLoop (P := P) hl (by rw [hrec]; simp); rw [hrec] at this; exact this, hstop _ c _ (Nat.le_refl _) ((hIx c).putObj (s := ()) _ hi (by omega) hl rfl) ((World.putObj_heap_other (by omega)).trans hk)⟩

/-! ### moves -/
theorem movesL_sound {F : Fence} {rd : Bool} (hF : Place F rd) {n : Nat} {ops : Array Oper} {Q : Exit → Act → World → Prop} : ∀ (l : List Oper) {mv : List (Tmp × Tmp)} {a : Act} {w : World}, movesL l = some mv → Q .normal (mvAct a mv) w → wpListIn F n P ops Q l a w
  | [], mv, a, w, h, hq => by
    simp only [movesL, Option.some.injEq] at h
    subst h
    exact hq
  | o :: r, mv, a, w, h, hq => by
    obtain ⟨dst, op, ty, pos, after, guard⟩ := o
    unfold movesL at h
    split at h
    · rename_i d s q h1 h2 h3 h4
      simp only at h1 h2 h3
      subst h1; subst h2; subst h3
      simp only [Option.some.injEq] at h
      subst h
      unfold wpListIn
      rw [if_pos (by simp [Region.wanted])]
      refine ⟨fun f _ => hF.fn f, ?_⟩
      rw [semAt_same hF _ (by intro c; simp)]
      exact movesL_sound hF r h4 hq
    · rename_i d s q h1 h2 h3 h4
      simp only at h1 h2 h3
      subst h1; subst h2; subst h3
      simp only [Option.some.injEq] at h
      subst h
      unfold wpListIn
      rw [if_pos (by simp [Region.wanted])]
      refine ⟨fun f _ => hF.fn f, ?_⟩
      rw [semAt_same hF _ (by intro c; simp)]
      exact movesL_sound hF r h4 hq
    · cases h
theorem mvAct_append (a : Act) : ∀ (p q : List (Tmp × Tmp)), mvAct a (p ++ q) = mvAct (mvAct a p) q
  | [], q => rfl
  | (d, s) :: r, q => by simp only [List.cons_append, mvAct]; exact mvAct_append _ r q
theorem movesOf_sound {F : Fence} {rd : Bool} (hF : Place F rd) {n : Nat} : ∀ (c : Code) {mv : List (Tmp × Tmp)} {a : Act} {w : World} {K : Act → World → Prop} {Q : Exit → Act → World → Prop}, movesOf c = some mv → K (mvAct a mv) w → c.wpIn F n P (Exit.then K Q) a w
  | .skip, mv, a, w, K, Q, h, hk => by
    simp only [movesOf, Option.some.injEq] at h
    subst h
    exact wpIn_skip hk
  | .region id ops draw, mv, a, w, K, Q, h, hk => by
    cases draw with
    | true => cases h
    | false => exact wpIn_region_list (movesL_sound hF ops.toList h hk)
  | .seq x y, mv, a, w, K, Q, h, hk => by
    unfold movesOf at h
    split at h
    · rename_i p q hp hq
      simp only [Option.some.injEq] at h
      subst h
      refine wpIn_seq ?_
      have := movesOf_sound (n := n) hF x (K := y.wpIn F n P (Exit.then K Q)) (Q := Exit.then K Q) (a := a) (w := w) hp (movesOf_sound hF y hq (by rw [← mvAct_append]; exact hk))
      exact this
    · cases h
  | .cond .., _, _, _, _, _, h, _ => by cases h
  | .block .., _, _, _, _, _, h, _ => by cases h
  | .loop .., _, _, _, _, _, h, _ => by cases h
  | .exit .., _, _, _, _, _, h, _ => by cases h
  | .ret, _, _, _, _, _, h, _ => by cases h
  | .rangeFunc .., _, _, _, _, _, h, _ => by cases h
  | .scope .., _, _, _, _, _, h, _ => by cases h
  | .label .., _, _, _, _, _, h, _ => by cases h
  | .goto .., _, _, _, _, _, h, _ => by cases h
  | .refuse .., _, _, _, _, _, h, _ => by cases h

theorem mv_good : ∀ (mv : List (Tmp × Tmp)) {st : ASt} {a : Act}, Good st a w ι → (∀ p ∈ mv, p.1 < st.n) → Good (mvTm st mv) (mvAct a mv) w ι ∧ (mvTm st mv).L = st.L ∧ (mvTm st mv).n = st.n ∧ (mvTm st mv).O = st.O
  | [], st, a, h, _ => ⟨h, rfl, rfl, rfl⟩
  | (d, s) :: r, st, a, h, hn => by
    have h1 : Good (st.set d (st.get s)) (a.put (some d) (a.tmps.getD s undef)) w ι := ⟨h.toFits.set (hn (d, s) (by simp)) (h.ev (.tmp s)), h.sup, h.lev⟩
    exact mv_good r h1 (fun p hp => hn p (List.mem_cons_of_mem _ hp))
theorem mv_kept {W : Nat → Bool} : ∀ (mv : List (Tmp × Tmp)) {a b : Act}, (∀ p ∈ mv, W p.1 = true) → Kept W a b → Kept W a (mvAct b mv) ∧ (mvAct b mv).defers = b.defers
  | [], a, b, _, h => ⟨h, rfl⟩
  | (d, s) :: r, a, b, hW, h => mv_kept r (fun p hp => hW p (List.mem_cons_of_mem _ hp)) (h.put (fun d' e => by cases e; exact hW (d, s) (by simp)) _)

/-- The parameters of a round. -/
def psAct (a : Act) : List Tmp → List Value → Act
  | p :: ps, v :: vs => psAct (a.put (some p) v) ps vs
  | _, _ => a
theorem psAct_fold : ∀ (ps : List Tmp) (vs : List Value) (a : Act), { tmps := (ps.zip vs).foldl (fun t (p, v) => t.setIfInBounds p v) a.tmps, defers := a.defers } = psAct a ps vs
  | [], vs, a => by simp [psAct]
  | p :: ps, [], a => by simp [psAct]
  | p :: ps, v :: vs, a => by
    simp only [List.zip_cons_cons, List.foldl_cons, psAct]
    exact psAct_fold ps vs (a.put (some p) v)
theorem ps_good : ∀ (ps : List Tmp) (xs : List AV) (vs : List Value) {st : ASt} {a : Act}, Good st a w ι → xs.length = vs.length → (∀ p ∈ ps, p < st.n) → (∀ (j : Nat) (u : AV) (v : Value), xs[j]? = some u → vs[j]? = some v → RepA w (Gd w ι st.O) ι st.O u v) →
    Good (psTm st ps xs) (psAct a ps vs) w ι ∧ (psTm st ps xs).L = st.L ∧ (psTm st ps xs).n = st.n ∧ (psTm st ps xs).O = st.O
  | [], xs, vs, st, a, h, _, _, _ => by simpa [psTm, psAct] using h
  | p :: ps, [], vs, st, a, h, hl, _, _ => by
    have : vs = [] := List.eq_nil_of_length_eq_zero hl.symm
    subst this
    exact ⟨h, rfl, rfl, rfl⟩
  | p :: ps, x :: xs, [], st, a, h, hl, _, _ => by simp at hl
  | p :: ps, x :: xs, v :: vs, st, a, h, hl, hn, hr => by
    have h1 : Good (st.set p (.a x)) (a.put (some p) v) w ι := ⟨h.toFits.set (hn p (by simp)) (v := .a x) (hr 0 x v rfl rfl), h.sup, h.lev⟩
    exact ps_good ps xs vs h1 (by simpa using hl) (fun q hq => hn q (List.mem_cons_of_mem _ hq)) (fun j u v' hu hv => hr (j + 1) u v' (by simpa using hu) (by simpa using hv))
theorem ps_kept {W : Nat → Bool} : ∀ (ps : List Tmp) (vs : List Value) {a b : Act}, (∀ p ∈ ps, W p = true) → Kept W a b → Kept W a (psAct b ps vs) ∧ (psAct b ps vs).defers = b.defers
  | [], vs, a, b, _, h => by simpa [psAct] using h
  | p :: ps, [], a, b, _, h => ⟨h, rfl⟩
  | p :: ps, v :: vs, a, b, hW, h => ps_kept ps vs (fun q hq => hW q (List.mem_cons_of_mem _ hq)) (h.put (fun d e => by cases e; exact hW p (by simp)) _)

theorem Good.defers {ds : List Deferred} (h : Good st a w ι) : Good st { a with defers := ds } w ι := ⟨⟨h.lies, h.size, h.tm, h.out⟩, h.sup, h.lev⟩
theorem Moves.grown {s s' : ASt} {W W' : World} {ι' : Nat → Nat → Nat} {row : Option Nat} (h : Moves s s' w W ι ι') (hg : W.grownBy W' row) (hr : ∀ r, row = some r → w.heap.size ≤ r ∧ ∃ o : Obj, W.heap[r]? = some o ∧ o.isCells = false) : Moves s s' w W' ι ι' := by
  have hc := Cel.of_grown hg (fun r e => (hr r e).2)
  refine ⟨h.L, h.n, hg.os.trans h.os, hg.tape.trans h.tape, hg.output.trans h.output, Nat.le_trans h.size hg.size, fun k hk ho => ?_, h.own, h.low, fun l b o c e hl ho hcc => ?_⟩
  · rw [hg.block k (Nat.lt_of_lt_of_le hk h.size) (fun e => by have := (hr k e.symm).1; omega)]
    exact h.keep k hk ho
  · obtain ⟨c', h1, h2⟩ := h.roomy l b o c e hl ho hcc
    exact ⟨c', hc.same _ _ _ _ h1, h2⟩
theorem RepA.nowhere {w' : World} {G : Nat → Prop} {u : AV} {v : Value} {O : Store} (h : RepA w G (fun _ _ => 0) (fun _ _ => none) u v) (hG : ∀ k, G k → Gd w' ι O k ∧ w'.heap[k]? = w.heap[k]?) : RepA w' (Gd w' ι O) ι O u v :=
  RepA.stays h ⟨hG, fun l b o ho => (by cases ho), fun l b o c e ho => (by cases ho)⟩

/-- The machine runs the code as 'awp' says. -/
theorem awp_sound (hT : TOk P T) (hm : P.follows .mixedOrders = true) {rd : Bool} {F : Fence} (hF : Place F rd) {n : Nat} : ∀ (c : Code) {base : Nat} {Q : Exit → ASt → Prop} {st : ASt} {a : Act} {w : World} {ι : Nat → Nat → Nat}, Good st a w ι → Marks base a w → base ≤ w.heap.size → awp P T rd c Q st →
    c.wpIn F n P (fun e a' w' => ∃ st' ι', Q e st' ∧ Good st' a' w' ι' ∧ Moves st st' w w' ι ι' ∧ Marks base a' w' ∧ Kept (writesB c) a a') a w
  | .skip, base, Q, st, a, w, ι, h, hd, _, hk => wpIn_skip ⟨st, ι, hk, h, Moves.refl _ _ _, hd, Kept.refl _ _⟩
  | .exit id, base, Q, st, a, w, ι, h, hd, _, hk => wpIn_exit ⟨st, ι, hk, h, Moves.refl _ _ _, hd, Kept.refl _ _⟩
  | .ret, base, Q, st, a, w, ι, h, hd, _, hk => wpIn_ret ⟨st, ι, hk, h, Moves.refl _ _ _, hd, Kept.refl _ _⟩
  | .region id ops draw, base, Q, st, a, w, ι, h, hd, hbase, hk => by
    unfold awp at hk
    split at hk
    · rename_i hdr
      subst hdr
      obtain ⟨hb1, hb2⟩ := h.below ((Below.refl w.heap.size w).drew)
      cases rd with
      | true =>
        rcases hk with ⟨hrd, _⟩ | hk
        · cases hrd
        refine wpIn_region_any hm ?_
        have := danyR_sound (QQ := fun e a' w' => ∃ st' ι', Q e st' ∧ Good st' a' w' ι' ∧ Moves st st' w w' ι ι' ∧ Marks base a' w' ∧ Kept (writesB (.region id ops true)) a a') hT hF (m := n) (ops := ops.toList) (Q := Q .normal) (a0 := a)
          (fun a' w' st' ι' q1 q2 q3 q4 q5 => ⟨st', ι', q1, q2, hb2.trans q3, hd.moves h (hb2.trans q3) q4, q5⟩) ops.size (Array.replicate ops.size false) hb1 (Moves.refl _ _ _) rfl (Kept.refl _ _) hk
        rw [Array.toArray_toList] at this
        exact this
      | false =>
        have hFw : F = Fence.wide := hF
        subst hFw
        refine wpIn_wide.2 ?_
        rcases hk with ⟨_, hB, hk⟩ | hk
        case inr =>
          refine wp_mono (wp_region_any hm (dany_sound (a0 := a) hT _ _ hb1 (Moves.refl _ _ _) rfl (Kept.refl _ _) hk)) ?_
          rintro e a' w' ⟨rfl, k4, k5, st', ι', k1, k2, k3⟩
          exact ⟨st', ι', k1, k2, hb2.trans k3, hd.moves h (hb2.trans k3) k4, k5⟩
        refine wp_region_quiet (C := fun w' => Below w.heap.size w w') hm hB ((Below.refl _ w).drew) ?_
        have := qops_sound (a0 := a) hT ops.toList (fun o ho => ho) h rfl (Kept.refl _ _) hk
        rw [Array.toArray_toList] at this
        refine wpQuiet_mono' ?_ ops.toList a this
        rintro a' ⟨k4, k5, st', h1, h2, h3, h4, h5⟩ w' hw'
        obtain ⟨g1, g2⟩ := h2.below hw'
        have hmv := g2.of_O' h3 h4 h5
        exact ⟨st', ι, h1, g1, hmv, hd.moves h hmv k4, k5⟩
    · rename_i hdr
      have hd' : draw = false := by simpa using hdr
      subst hd'
      refine wpIn_region_list ?_
      have := aops_sound (QQ := fun e a' w' => ∃ st' ι', Q e st' ∧ Good st' a' w' ι' ∧ Moves st st' w w' ι ι' ∧ Marks base a' w' ∧ Kept (writesB (.region id ops false)) a a') hT hF (m := n) (ops := ops.toList) (Q := Q .normal) (a0 := a)
        (fun a' w' st' ι' q1 q2 q3 q4 q5 => ⟨st', ι', q1, q2, q3, hd.moves h q3 q4, q5⟩) ops.toList (fun o ho => ho) h (Moves.refl _ _ _) rfl (Kept.refl _ _) hk
      rw [Array.toArray_toList] at this
      exact this
  | .seq x y, base, Q, st, a, w, ι, h, hd, hbase, hk => by
    unfold awp at hk
    obtain ⟨J, hJ, hk⟩ := hk
    have hwx : ∀ t, writesB (.seq x y) t = false → writesB x t = false := fun t ht => by simp only [writesB, Bool.or_eq_false_iff] at ht; exact ht.1
    have hwy : ∀ t, writesB (.seq x y) t = false → writesB y t = false := fun t ht => by simp only [writesB, Bool.or_eq_false_iff] at ht; exact ht.2
    refine wpIn_seq (wpIn_mono (awp_sound hT hm hF x h hd hbase hk) ?_)
    rintro e a' w' ⟨st', ι', h1, h2, h3, h6, h7⟩
    cases e with
    | normal =>
      obtain ⟨s2, h4, h1⟩ := h1
      obtain ⟨h2, h5⟩ := h2.wk' h4
      refine wpIn_mono (awp_sound hT hm hF y h2 h6 (Nat.le_trans hbase h3.size) (hJ s2 h1)) ?_
      rintro e a2 w2 ⟨st2, ι2, k1, k2, k3, k4, k5⟩
      exact ⟨st2, ι2, k1, k2, (h3.trans h5).trans k3, k4, (h7.mono hwx).trans (k5.mono hwy)⟩
    | _ => exact ⟨st', ι', h1, h2, h3, h6, h7.mono hwx⟩
  | .cond c x y, base, Q, st, a, w, ι, h, hd, hbase, hk => by
    unfold awp kcond at hk
    have hc := h.ev c
    have hwx : ∀ t, writesB (.cond c x y) t = false → writesB x t = false := fun t ht => by simp only [writesB, Bool.or_eq_false_iff] at ht; exact ht.1
    have hwy : ∀ t, writesB (.cond c x y) t = false → writesB y t = false := fun t ht => by simp only [writesB, Bool.or_eq_false_iff] at ht; exact ht.2
    split at hk
    · rename_i b hq
      rw [hq] at hc
      have hv := (RepP.lit_inv hc).1
      cases b
      · refine wpIn_cond hv (wpIn_mono (awp_sound hT hm hF y h hd hbase (hk.2 rfl)) ?_)
        rintro e a' w' ⟨st', ι', k1, k2, k3, k4, k5⟩
        exact ⟨st', ι', k1, k2, k3, k4, k5.mono hwy⟩
      · refine wpIn_cond hv (wpIn_mono (awp_sound hT hm hF x h hd hbase (hk.1 rfl)) ?_)
        rintro e a' w' ⟨st', ι', k1, k2, k3, k4, k5⟩
        exact ⟨st', ι', k1, k2, k3, k4, k5.mono hwx⟩
    · exact hk.elim
  | .block id c, base, Q, st, a, w, ι, h, hd, hbase, hk => by
    unfold awp at hk
    refine wpIn_block (wpIn_mono (awp_sound hT hm hF c h hd hbase hk) ?_)
    rintro e a' w' ⟨st', ι', h1, h2, h3⟩
    cases e with
    | exit id' =>
      simp only [kblock] at h1
      simp only [Exit.inBlock]
      split at h1
      · rename_i he; rw [if_pos he]; exact ⟨st', ι', h1, h2, h3⟩
      · rename_i he; rw [if_neg he]; exact ⟨st', ι', h1, h2, h3⟩
    | _ => exact ⟨st', ι', h1, h2, h3⟩
  | .loop c, base, Q, st, a, w, ι, h, hd, hbase, hk => by
    unfold awp at hk
    obtain ⟨I, n0, s0, hw0, h0, hround⟩ := hk
    obtain ⟨hg0, hm0⟩ := h.wk' hw0
    refine wpIn_loop_ghost (fun k a' w' => ∃ st' ι', I k st' ∧ Good st' a' w' ι' ∧ Moves st st' w w' ι ι' ∧ Marks base a' w' ∧ Kept (writesB c) a a') n0 ⟨s0, ι, h0, hg0, hm0, hd, Kept.refl _ _⟩ ?_
    rintro k a1 w1 ⟨st1, ι1, k1, k2, k3, k4, k5⟩
    refine wpIn_mono (awp_sound hT hm hF c k2 k4 (Nat.le_trans hbase k3.size) (hround k st1 k1)) ?_
    rintro e a2 w2 ⟨st2, ι2, q1, q2, q3, q6, q7⟩
    cases e with
    | normal =>
      obtain ⟨s2, q4, n', hn, q1⟩ := q1
      obtain ⟨q2, q5⟩ := q2.wk' q4
      exact ⟨n', hn, s2, ι2, q1, q2, (k3.trans q3).trans q5, q6, k5.trans q7⟩
    | _ => exact ⟨st2, ι2, q1, q2, k3.trans q3, q6, k5.trans q7⟩
  | .rangeFunc g ps assign body, base, Q, st0, a, w, ι, h, hd, hbase, hk => by
    unfold awp at hk
    obtain ⟨hrd, st, f, css, xs, J, mv, hwk, hev, ⟨hent, hit⟩, hmv, hlen, hps, hmvn, h0, hround, hdone⟩ := hk
    subst hrd
    have hFw : F = Fence.wide := hF
    subst hFw
    refine wpIn_wide.2 ((wpIn_wide (n := 3)).1 ?_)
    have hgv := h.ev g
    rw [hev] at hgv
    obtain ⟨hgood, hmv0⟩ := h.wk' hwk
    have hGd : ∀ k, Gd w ι st0.O k → Gd w ι st.O k := by
      rcases hwk with rfl | hwk
      · exact fun k hk => hk
      · exact fun k hk => ⟨hk.1, fun ⟨l, b, o, ho, e⟩ => hk.2 ⟨l, b, o, hwk.obj l b o ho, e⟩⟩
    obtain ⟨vs, hgv, hrepc⟩ : ∃ vs : List Value, a.eval g = .func (.func f) #[] vs.toArray ∧ RepP w (Gd w ι st.O) (.clo f css) (.func (.func f) #[] vs.toArray) := by
      have h1 : RepP w (Gd w ι st.O) (.clo f css) (a.eval g) := RepP.mono hgv (fun k hk => ⟨hGd k hk, rfl⟩)
      generalize a.eval g = v at h1
      cases h1 with
      | clo _ _ vs blk u q1 q2 q3 q4 => exact ⟨vs, rfl, .clo f css vs blk u q1 q2 q3 q4⟩
    obtain ⟨ys, hyl, hyr, hiter⟩ := hit w (Gd w ι st.O) vs (fun k hk => hk.1) hrepc
    -- between two rounds
    have hy2 : ∀ (k : Nat) (y : Array Value), (ys.map List.toArray)[k]? = some y → ∃ y' x, ys[k]? = some y' ∧ xs[k]? = some x ∧ y = y'.toArray ∧ y'.length = x.length ∧ x.length = ps.size := by
      intro k y hk
      rw [List.getElem?_map] at hk
      cases hy : ys[k]? with
      | none => simp [hy] at hk
      | some y' =>
        simp only [hy, Option.map_some, Option.some.injEq] at hk
        have hlt : k < xs.length := by rw [← hyl]; exact (List.getElem?_eq_some_iff.1 hy).1
        have hx := List.getElem?_eq_getElem hlt
        exact ⟨y', xs[k], rfl, hx, hk.symm, (hyr k _ _ hx hy).1, hlen _ (List.getElem_mem hlt)⟩
    refine rf_law (a := a) (w := w) (Kp := fun W W' => ∀ b, Gd w ι st.O b → W'.heap[b]? = W.heap[b]?) hgv hent (ys.map List.toArray) ?_ (fun h1 h2 b hb => (h2 b hb).trans (h1 b hb)) ?_ ?_
      (fun k W => ∃ O ι', J k O ∧ Good { st with O := O } a W ι' ∧ Moves st { st with O := O } w W ι ι')
      (fun c W => ∃ O ι', (match c with
        | .ret => Q .ret { st with O := O }
        | .exit id => Q (.exit id) { st with O := O }
        | _ => False) ∧ Good { st with O := O } a W ι' ∧ Moves st { st with O := O } w W ι ι')
      ?_ ?_ ⟨st.O, ι, h0, hgood, Moves.refl _ _ _⟩ (fun y => mvAct (psAct { a with defers := [] } ps.toList y.toList) mv) ?_ ?_ ?_ ?_
    · -- the iterator
      intro l JJ Jx W hW hJ hJx hY hJ0
      have := hiter l JJ Jx W hW hJ hJx (fun k y W1 hk hj => hY k y.toArray W1 (by rw [List.getElem?_map, hk]; rfl) hj) hJ0
      rw [List.length_map]
      exact this
    · intro W l o o' hl ho hc b hb
      exact World.putObj_heap_other (by have := hb.1; omega)
    · intro y hy
      obtain ⟨k, hk⟩ := List.mem_iff_getElem?.1 hy
      obtain ⟨y', x, _, _, rfl, h1, h2⟩ := hy2 k y hk
      simp [h1, h2]
    · rintro k A B row ⟨O, ι', q1, q2, q3⟩ hg hr
      exact ⟨O, ι', q1, q2.cel (Cel.of_grown hg fun r e => (hr r e).2), q3.grown hg hr⟩
    · rintro c s A B row ⟨O, ι', q1, q2, q3⟩ hg hr
      exact ⟨O, ι', q1, q2.cel (Cel.of_grown hg fun r e => (hr r e).2), q3.grown hg hr⟩
    · intro l y W K hy hK
      have e : ({ tmps := (ps.zip y).foldl (fun t (p, v) => t.setIfInBounds p v) a.tmps, defers := [] } : Act) = psAct { a with defers := [] } ps.toList y.toList := by
        rw [← psAct_fold]
        congr 1
        rw [← Array.foldl_toList, Array.toList_zip]
      rw [e]
      exact movesOf_sound (rd := true) (show Place _ true from ⟨l, rfl⟩) assign hmv hK
    · -- one round
      rintro l k y W hk ⟨O, ι', q1, q2, q3⟩
      obtain ⟨y', x, h1, h2, rfl, h3, h4⟩ := hy2 k y hk
      have hkeep : ∀ b, Gd w ι st.O b → Gd W ι' O b ∧ W.heap[b]? = w.heap[b]? := by
        intro b hb
        refine ⟨⟨Nat.lt_of_lt_of_le hb.1 q3.size, ?_⟩, q3.keep b hb.1 hb.2⟩
        rintro ⟨l2, b2, o2, ho2, rfl⟩
        rcases q3.own l2 b2 o2 ho2 with h5 | h5
        · exact hb.2 h5
        · have := hb.1; omega
      have hg1 : Good { st with O := O } { a with defers := [] } W ι' := q2.defers
      obtain ⟨p1, p2, p3, p4⟩ := ps_good ps.toList x y' hg1 h3.symm (fun p hp => hps p hp) (fun j u v hu hv => (hyr k x y' h2 h1).2 j u v hu hv |>.nowhere hkeep)
      obtain ⟨r1, r2, r3, r4⟩ := mv_good mv p1 (fun p hp => by rw [p3]; exact hmvn p hp)
      have hbody := hround k x O h2 q1
      have hplace : Place (Fence.wide.inRound l) true := ⟨l, rfl⟩
      have hkp : Kept (writesR ps.toList mv body) { a with defers := [] } (mvAct (psAct { a with defers := [] } ps.toList y') mv) ∧ (mvAct (psAct { a with defers := [] } ps.toList y') mv).defers = [] := by
        obtain ⟨s1, s2⟩ := ps_kept (W := writesR ps.toList mv body) ps.toList y' (a := { a with defers := [] }) (fun p hp => by simp only [writesR, Bool.or_eq_true]; exact .inl (.inl (List.any_eq_true.2 ⟨p, hp, Nat.beq_refl p⟩))) (Kept.refl _ _)
        obtain ⟨s3, s4⟩ := mv_kept (W := writesR ps.toList mv body) mv (fun p hp => by simp only [writesR, Bool.or_eq_true]; exact .inl (.inr (List.any_eq_true.2 ⟨p, hp, Nat.beq_refl p.1⟩))) s1
        exact ⟨s3, s4.trans s2⟩
      refine wpIn_mono (awp_sound hT hm hplace body r1 (Marks.nil (base := 0) hkp.2) (Nat.zero_le _) hbody) ?_
      rintro e a2 W2 ⟨s2, ι2, ⟨s3, hw3, hback, hout⟩, g2, m2, _, k2⟩
      obtain ⟨g3, m3⟩ := g2.wk' hw3
      have hm4 := m2.trans m3
      have hO1 : (mvTm (psTm { st with O := O } ps.toList x) mv).O = O := r4.trans p4
      -- the loop's activation, over what the round has left
      have hgood2 : Good { st with O := s3.O } a W2 ι2 := by
        refine ⟨⟨g3.lies, hgood.size, fun t ht => ?_, hgood.out⟩, fun l b o ho => ?_, g3.lev⟩
        · show RepT _ _ _ _ (st.get t) _
          rcases hback t with e1 | ⟨e1, e2⟩
          · rw [e1]; trivial
          · have hsz : t < s3.n := by rw [hm4.n, r3, p3]; exact ht
            have := g3.tm t hsz
            rw [e2] at this
            have hw1 := hkp.1 t e1
            have hw2 : a2.tmps.getD t undef = (mvAct (psAct { a with defers := [] } ps.toList y') mv).tmps.getD t undef := k2 t (by simp only [writesR, Bool.or_eq_false_iff] at e1; exact e1.2)
            rw [hw2, hw1] at this
            exact this
        · have := g3.sup l b o ho
          rw [hm4.L, r2, p2] at this
          exact this
      have hmoves2 : Moves st { st with O := s3.O } w W2 ι ι2 := by
        refine q3.trans ?_
        refine ⟨rfl, rfl, hm4.os, hm4.tape, hm4.output, hm4.size, fun k hk ho => hm4.keep k hk (by rw [hO1]; exact ho), fun l b o ho => ?_, fun l b o hl ho => ?_, fun l b o c e hl ho hc => ?_⟩
        · have := hm4.own l b o ho
          rw [hO1] at this
          exact this
        · exact hm4.low l b o (by rw [r2, p2]; exact hl) (by rw [hO1]; exact ho)
        · exact hm4.roomy l b o c e (by rw [r2, p2]; exact hl) (by rw [hO1]; exact ho) hc
      have hkf : KeepsFrom w.heap.size W W2 := by
        refine ⟨hm4.size, fun k o _ hk hc => ?_⟩
        rw [hm4.keep k (Array.getElem?_eq_some_iff.1 hk).1 (by rw [hO1]; exact not_own q2.lies hk hc)]
        exact hk
      cases e with
      | normal =>
        refine ⟨hkf, fun b hb => ?_, s3.O, ι2, hout, hgood2, hmoves2⟩
        obtain ⟨h5, h6⟩ := hkeep b hb
        exact hm4.keep b h5.1 (by rw [hO1]; exact h5.2)
      | ret => exact ⟨hkf, s3.O, ι2, hout, hgood2, hmoves2⟩
      | exit id => exact ⟨hkf, s3.O, ι2, hout, hgood2, hmoves2⟩
      | _ => exact hout.elim
    · -- all rounds are over
      rintro D W hD ⟨O, ι', q1, q2, q3⟩ hK
      refine ⟨{ st with O := O }, ι', hdone O (by rw [List.length_map, hyl] at q1; exact q1), q2.defers, hmv0.trans q3, marks_cons hd h (hmv0.trans q3) (Nat.le_trans hbase hD) hD hK, fun _ _ => rfl⟩
    · rintro D c W hD ⟨O, ι', q1, q2, q3⟩ hK
      have hmk := marks_cons hd h (hmv0.trans q3) (Nat.le_trans hbase hD) hD hK
      cases c with
      | ret => exact wpIn_ret ⟨{ st with O := O }, ι', q1, q2.defers, hmv0.trans q3, hmk, fun _ _ => rfl⟩
      | exit id => exact wpIn_exit ⟨{ st with O := O }, ι', q1, q2.defers, hmv0.trans q3, hmk, fun _ _ => rfl⟩
      | _ => exact q1.elim
  | .scope _, _, _, _, _, _, _, _, _, _, hk => by simp [awp] at hk
  | .label _, _, _, _, _, _, _, _, _, _, hk => by simp [awp] at hk
  | .goto _, _, _, _, _, _, _, _, _, _, hk => by simp [awp] at hk
  | .refuse _, _, _, _, _, _, _, _, _, _, hk => by simp [awp] at hk
where
  wpQuiet_mono' {P : Program} {ops : Array Oper} {C : World → Prop} {Q Q' : Act → Prop} (hq : ∀ a, Q a → Q' a) : ∀ (l : List Oper) (a : Act), wpQuiet P ops C Q l a → wpQuiet P ops C Q' l a := by
    intro l
    induction l with
    | nil => exact fun a h => hq _ h
    | cons o l ih =>
      intro a h
      unfold wpQuiet at h ⊢
      split at h
      · rename_i hw
        rw [if_pos hw]
        obtain ⟨v, h1, h2⟩ := h
        exact ⟨v, h1, ih _ h2⟩
      · rename_i hw
        rw [if_neg hw]
        exact ih _ h
  marks_cons {base : Nat} {s s' : ASt} {a : Act} {w W : World} {ι ι' : Nat → Nat → Nat} {D : Nat} (hd : Marks base a w) (hg : Good s a w ι) (hm : Moves s s' w W ι ι') (hb : base ≤ D) (hD : w.heap.size ≤ D) (hK : W.heap[D]? = some (.deferred (some []))) :
      Marks base { a with defers := { target := .collected D, args := #[] } :: a.defers } W := by
    obtain ⟨Ds, h1, h2, h3⟩ := hd
    refine ⟨D :: Ds, List.nodup_cons.2 ⟨fun hmem => ?_, h1⟩, by rw [List.map_cons, ← h2], fun D' hD' => ?_⟩
    · have := (Array.getElem?_eq_some_iff.1 (h3 D hmem).2).1
      omega
    · rcases List.mem_cons.1 hD' with rfl | hD'
      · exact ⟨hb, hK⟩
      · obtain ⟨q1, q2⟩ := h3 D' hD'
        exact ⟨q1, by rw [hm.keep D' (Array.getElem?_eq_some_iff.1 q2).1 (not_own hg.lies q2 rfl)]; exact q2⟩
end
end Go.Rd
