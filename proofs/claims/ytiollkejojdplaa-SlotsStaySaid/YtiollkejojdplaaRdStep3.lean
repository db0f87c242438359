/- RD, part 18: steps of code; loops; what a function hands back; calls; appends. -/
import Derived.Test.YtiollkejojdplaaRdStep2
namespace Go.Rd
open Go.RowKit Go.Proofs

/-! ### forgetting, in normal form -/
def agree (tm : List (Nat × TV)) : List (Nat × TV) → Prop
  | [] => True
  | (k, v) :: r => lk tm k = v ∧ agree tm r
def oagree (own : List (Nat × AObj)) : List (Nat × AObj) → Prop
  | [] => True
  | (k, v) :: r => alook own k = some v ∧ oagree own r
def hasO (own : List (Nat × AObj)) (b : Nat) : Bool := match alook own b with
  | some _ => true
  | none => false
def liveSB (own : List (Nat × AObj)) : SV → Bool
  | .pb _ b _ => hasO own b
  | .pr _ b _ _ => hasO own b
  | .sl _ b _ _ => hasO own b
  | .slc _ b _ _ _ => hasO own b
  | .clo _ caps => caps.all fun p => hasO own p.2
  | _ => true
def liveAB (own : List (Nat × AObj)) : AV → Bool
  | .s x => liveSB own x
  | .agg xs => xs.all (liveSB own)
  | .pel .. => true
def liveTB (own : List (Nat × AObj)) : TV → Bool
  | .undef => true
  | .a x => liveAB own x
  | .tup xs => xs.all (liveAB own)
def liveB (own : List (Nat × AObj)) : List (Nat × TV) → Bool
  | [] => true
  | (_, v) :: r => match liveTB own v with
    | true => liveB own r
    | false => false
def liveOB (own : List (Nat × AObj)) : List (Nat × AObj) → Bool
  | [] => true
  | (_, .box _ cs) :: r => match cs.all (liveSB own) with
    | true => liveOB own r
    | false => false
  | (_, .row ..) :: r => liveOB own r

section
variable {L n : Nat} {tm tm' : List (Nat × TV)} {S : Store} {own own' : List (Nat × AObj)}
theorem lk_cons (k : Nat) (v : TV) (r : List (Nat × TV)) (t : Nat) : lk ((k, v) :: r) t = if t = k then v else lk r t := by
  show (match Nat.beq t k with | true => v | false => lk r t) = _
  cases h : Nat.beq t k with
  | true => rw [if_pos (Nat.eq_of_beq_eq_true h)]
  | false => rw [if_neg (fun e => by subst e; simp at h)]
theorem agree_lk : ∀ {tm' : List (Nat × TV)}, agree tm tm' → ∀ t, lk tm' t = .undef ∨ lk tm' t = lk tm t
  | [], _, t => .inl rfl
  | (k, v) :: r, h, t => by
    rw [lk_cons]
    split
    · rename_i e; subst e; exact .inr h.1.symm
    · exact agree_lk h.2 t
theorem oagree_look : ∀ {own' : List (Nat × AObj)}, oagree own own' → ∀ b o, alook own' b = some o → alook own b = some o
  | [], _, b, o, h => by cases h
  | (k, v) :: r, h, b, o, ho => by
    rw [alook_cons] at ho
    split at ho
    · rename_i e; subst e; rw [← ho]; exact h.1
    · exact oagree_look h.2 b o ho
theorem hasO_ok {b : Nat} (h : hasO own b = true) : (mkO S L own L b).isSome = true := by
  unfold hasO at h
  rw [mkO_own]
  split at h
  · rename_i e; rw [e]; rfl
  · cases h
theorem liveSB_ok {s : SV} (h : liveSB own s = true) : s.liveAt (mkO S L own) L := by
  cases s with
  | pb l b j => intro e; subst e; exact hasO_ok h
  | pr l b i j => intro e; subst e; exact hasO_ok h
  | sl l b off len => intro e; subst e; exact hasO_ok h
  | slc l b off len cap => intro e; subst e; exact hasO_ok h
  | clo f caps => intro p hp e; rw [e]; exact hasO_ok (List.all_eq_true.1 h p hp)
  | undef => trivial
  | pv p => trivial
theorem liveAB_ok {s : AV} (h : liveAB own s = true) : s.liveAt (mkO S L own) L := by
  cases s with
  | s x => exact liveSB_ok h
  | agg xs => exact fun x hx => liveSB_ok (List.all_eq_true.1 h x hx)
  | pel => trivial
theorem liveTB_ok {s : TV} (h : liveTB own s = true) : s.liveAt (mkO S L own) L := by
  cases s with
  | undef => trivial
  | a x => exact liveAB_ok h
  | tup xs => exact fun x hx => liveAB_ok (List.all_eq_true.1 h x hx)
theorem liveB_ok : ∀ {tm : List (Nat × TV)}, liveB own tm = true → ∀ t, (lk tm t).liveAt (mkO S L own) L
  | [], _, t => trivial
  | (k, v) :: r, h, t => by
    unfold liveB at h
    split at h
    · rename_i hv
      unfold lk
      cases hb : Nat.beq t k with
      | true => exact liveTB_ok hv
      | false => exact liveB_ok h t
    · cases h
theorem liveOB_ok : ∀ {o2 : List (Nat × AObj)}, liveOB own o2 = true → ∀ b e cs, alook o2 b = some (.box e cs) → ∀ x ∈ cs, x.liveAt (mkO S L own) L
  | [], _, b, e, cs, ho, x, hx => by cases ho
  | (k, .box e' cs') :: r, h, b, e, cs, ho, x, hx => by
    unfold liveOB at h
    split at h
    · rename_i hv
      rw [alook_cons] at ho
      split at ho
      · simp only [Option.some.injEq, AObj.box.injEq] at ho
        obtain ⟨_, rfl⟩ := ho
        exact liveSB_ok (List.all_eq_true.1 hv x hx)
      · exact liveOB_ok h b e cs ho x hx
    · cases h
  | (k, .row ..) :: r, h, b, e, cs, ho, x, hx => by
    unfold liveOB at h
    rw [alook_cons] at ho
    split at ho
    · simp at ho
    · exact liveOB_ok h b e cs ho x hx

theorem wk_St (h1 : agree tm tm') (h2 : oagree own own') (h3 : liveB own' tm' = true) (h4 : liveOB own' own' = true) : Wk (St L n tm S own) (St L n tm' S own') where
  L := rfl
  n := rfl
  tm := fun t => by rw [St_get, St_get]; exact agree_lk h1 t
  obj := fun l b o ho => by
    by_cases hl : l = L
    · subst hl
      have ho : mkO S l own' l b = some o := ho
      show mkO S l own l b = some o
      rw [mkO_own] at ho ⊢
      exact oagree_look h2 b o ho
    · have ho : mkO S L own' l b = some o := ho
      show mkO S L own l b = some o
      simp only [mkO, if_neg hl] at ho ⊢
      exact ho
  low := fun l b hl => by
    have hl : l < L := hl
    show mkO S L own' l b = mkO S L own l b
    rw [mkO_low _ _ _ hl, mkO_low _ _ _ hl]
  live := fun t => by rw [St_get]; exact liveB_ok h3 t
  box := fun b e cs ho => by
    have ho : mkO S L own' L b = _ := ho
    rw [mkO_own] at ho
    exact liveOB_ok h4 b e cs ho
end

/-! the same, with references to what lies lower -/
def liveCP (own : List (Nat × AObj)) (L : Nat) : List (Nat × Nat) → Prop
  | [] => True
  | p :: r => (p.1 < L ∨ hasO own p.2 = true) ∧ liveCP own L r
def liveSP (own : List (Nat × AObj)) (L : Nat) : SV → Prop
  | .pb l b _ => l < L ∨ hasO own b = true
  | .pr l b _ _ => l < L ∨ hasO own b = true
  | .sl l b _ _ => l < L ∨ hasO own b = true
  | .slc l b _ _ _ => l < L ∨ hasO own b = true
  | .clo _ caps => liveCP own L caps
  | _ => True
def liveLP (own : List (Nat × AObj)) (L : Nat) : List SV → Prop
  | [] => True
  | x :: r => liveSP own L x ∧ liveLP own L r
def liveAP (own : List (Nat × AObj)) (L : Nat) : AV → Prop
  | .s x => liveSP own L x
  | .agg xs => liveLP own L xs
  | .pel .. => True
def liveAsP (own : List (Nat × AObj)) (L : Nat) : List AV → Prop
  | [] => True
  | x :: r => liveAP own L x ∧ liveAsP own L r
def liveTP (own : List (Nat × AObj)) (L : Nat) : TV → Prop
  | .undef => True
  | .a x => liveAP own L x
  | .tup xs => liveAsP own L xs
def liveP (own : List (Nat × AObj)) (L : Nat) : List (Nat × TV) → Prop
  | [] => True
  | (_, v) :: r => liveTP own L v ∧ liveP own L r
def liveOP (own : List (Nat × AObj)) (L : Nat) : List (Nat × AObj) → Prop
  | [] => True
  | (_, .box _ cs) :: r => liveLP own L cs ∧ liveOP own L r
  | (_, .row ..) :: r => liveOP own L r
section
variable {L n : Nat} {tm tm' : List (Nat × TV)} {S : Store} {own own' : List (Nat × AObj)}
theorem liveCP_ok : ∀ {caps : List (Nat × Nat)}, liveCP own L caps → ∀ p ∈ caps, p.1 = L → (mkO S L own p.1 p.2).isSome = true
  | [], _, p, hp, _ => by cases hp
  | q :: r, h, p, hp, e => by
    rcases List.mem_cons.1 hp with rfl | hp
    · rcases h.1 with h1 | h1
      · omega
      · rw [e]; exact hasO_ok h1
    · exact liveCP_ok h.2 p hp e
theorem liveSP_ok {s : SV} (h : liveSP own L s) : s.liveAt (mkO S L own) L := by
  cases s with
  | pb l b j => intro e; rcases h with h1 | h1; (omega); (subst e; exact hasO_ok h1)
  | pr l b i j => intro e; rcases h with h1 | h1; (omega); (subst e; exact hasO_ok h1)
  | sl l b off len => intro e; rcases h with h1 | h1; (omega); (subst e; exact hasO_ok h1)
  | slc l b off len cap => intro e; rcases h with h1 | h1; (omega); (subst e; exact hasO_ok h1)
  | clo f caps => exact liveCP_ok h
  | undef => trivial
  | pv p => trivial
theorem liveLP_ok : ∀ {xs : List SV}, liveLP own L xs → ∀ x ∈ xs, x.liveAt (mkO S L own) L
  | [], _, x, hx => by cases hx
  | y :: r, h, x, hx => by
    rcases List.mem_cons.1 hx with rfl | hx
    · exact liveSP_ok h.1
    · exact liveLP_ok h.2 x hx
theorem liveAP_ok {s : AV} (h : liveAP own L s) : s.liveAt (mkO S L own) L := by
  cases s with
  | s x => exact liveSP_ok h
  | agg xs => exact liveLP_ok h
  | pel => trivial
theorem liveAsP_ok : ∀ {xs : List AV}, liveAsP own L xs → ∀ x ∈ xs, x.liveAt (mkO S L own) L
  | [], _, x, hx => by cases hx
  | y :: r, h, x, hx => by
    rcases List.mem_cons.1 hx with rfl | hx
    · exact liveAP_ok h.1
    · exact liveAsP_ok h.2 x hx
theorem liveTP_ok {s : TV} (h : liveTP own L s) : s.liveAt (mkO S L own) L := by
  cases s with
  | undef => trivial
  | a x => exact liveAP_ok h
  | tup xs => exact liveAsP_ok h
theorem liveP_ok : ∀ {tm : List (Nat × TV)}, liveP own L tm → ∀ t, (lk tm t).liveAt (mkO S L own) L
  | [], _, t => trivial
  | (k, v) :: r, h, t => by
    rw [lk_cons]
    split
    · exact liveTP_ok h.1
    · exact liveP_ok h.2 t
theorem liveOP_ok : ∀ {o2 : List (Nat × AObj)}, liveOP own L o2 → ∀ b e cs, alook o2 b = some (.box e cs) → ∀ x ∈ cs, x.liveAt (mkO S L own) L
  | [], _, b, e, cs, ho, x, hx => by cases ho
  | (k, .box e' cs') :: r, h, b, e, cs, ho, x, hx => by
    rw [alook_cons] at ho
    split at ho
    · simp only [Option.some.injEq, AObj.box.injEq] at ho
      obtain ⟨_, rfl⟩ := ho
      exact liveLP_ok h.1 x hx
    · exact liveOP_ok h.2 b e cs ho x hx
  | (k, .row ..) :: r, h, b, e, cs, ho, x, hx => by
    rw [alook_cons] at ho
    split at ho
    · simp at ho
    · exact liveOP_ok (o2 := r) h b e cs ho x hx
theorem wk_StP (h1 : agree tm tm') (h2 : oagree own own') (h3 : liveP own' L tm') (h4 : liveOP own' L own') : Wk (St L n tm S own) (St L n tm' S own') where
  L := rfl
  n := rfl
  tm := fun t => by rw [St_get, St_get]; exact agree_lk h1 t
  obj := fun l b o ho => by
    by_cases hl : l = L
    · subst hl
      have ho : mkO S l own' l b = some o := ho
      show mkO S l own l b = some o
      rw [mkO_own] at ho ⊢
      exact oagree_look h2 b o ho
    · have ho : mkO S L own' l b = some o := ho
      show mkO S L own l b = some o
      simp only [mkO, if_neg hl] at ho ⊢
      exact ho
  low := fun l b hl => by
    have hl : l < L := hl
    show mkO S L own' l b = mkO S L own l b
    rw [mkO_low _ _ _ hl, mkO_low _ _ _ hl]
  live := fun t => by rw [St_get]; exact liveP_ok h3 t
  box := fun b e cs ho => by
    have ho : mkO S L own' L b = _ := ho
    rw [mkO_own] at ho
    exact liveOP_ok h4 b e cs ho
end

/-! ### code -/
section
variable {rd : Bool}
variable {P : Program} {T : TypeId → Option TI} {L n : Nat} {tm tm' : List (Nat × TV)} {S : Store} {own own' : List (Nat × AObj)} {Q : Exit → ASt → Prop} {st : ASt}

theorem c_seq {x y : Code} (h : awp P T rd x (kseq (awp P T rd y Q) Q) st) : awp P T rd (.seq x y) Q st := ⟨_, fun _ h => h, h⟩
theorem c_join {x y : Code} (J : ASt → Prop) (hJ : ∀ s, J s → awp P T rd y Q s) (h : awp P T rd x (kseq J Q) st) : awp P T rd (.seq x y) Q st := ⟨J, hJ, h⟩
theorem c_skip (h : Q .normal st) : awp P T rd .skip Q st := h
theorem c_exit {id : Nat} (h : Q (.exit id) st) : awp P T rd (.exit id) Q st := h
theorem c_ret (h : Q .ret st) : awp P T rd .ret Q st := h
theorem c_block {id : Nat} {c : Code} (h : awp P T rd c (kblock id Q) st) : awp P T rd (.block id c) Q st := h
theorem c_region {k : Nat} {l : List Oper} (h : aops P T l l (Q .normal) st) : awp P T rd (.region k l.toArray false) Q st := by
  unfold awp
  rw [if_neg (by simp)]
  simpa using h
theorem x1_quiet {s : ASt} {d : Nat} {o : Oper} {K : TV → ASt → Prop} (h : isQ o = true) : x1 P T s d o.op K = xq P T s o.op fun v => K v s := by
  obtain ⟨dst, op, ty, pos, af, g⟩ := o
  cases op <;> first | rfl | (simp only [isQ] at h; cases h; done) | skip
  rename_i c
  obtain ⟨cal, cas, cts⟩ := c
  cases cal with
  | builtin b => cases b <;> first | rfl | (simp only [isQ] at h; cases h; done)
  | _ => simp only [isQ] at h; cases h; done
/-- A quiet operation in a region that draws its order. -/
theorem q_one {ops rest : List Oper} {Q : ASt → Prop} {st : ASt} {o : Oper} (hq : isQ o = true) (h : aops P T ops [o] (qops P T ops rest Q) st) : qops P T ops (o :: rest) Q st := by
  unfold qops
  unfold aops at h
  have e : (fun st : ASt => x1 P T st (o.dst.getD st.n) o.op fun v st' => st'.put o.dst v (aops P T ops [] (qops P T ops rest Q))) = fun st : ASt => qstep P T o st fun v => st.put o.dst v (qops P T ops rest Q) := by
    funext s
    rw [x1_quiet hq]
    unfold qstep
    rw [hq]
    rfl
  rw [e] at h
  exact h
theorem q_nil {ops : List Oper} {Q : ASt → Prop} {st : ASt} (h : Q st) : qops P T ops [] Q st := h
theorem q_qstep {st : ASt} {o : Oper} {K : TV → Prop} (hn : isQ o = false) (h : acallQ P st o.op K) : qstep P T o st K := by
  unfold qstep
  rw [hn]
  exact h
/-- The call of a pure function in such a region. -/
theorem q_call {ops rest : List Oper} {Q : ASt → Prop} {dst : Option Tmp} {op : Op} {ty : TypeId} {pos : String} {af : Array Edge} {st : ASt} (hn : isQ ⟨dst, op, ty, pos, af, none⟩ = false) (h : acallQ P st op (fun v => st.put dst v (qops P T ops rest Q))) : qops P T ops (⟨dst, op, ty, pos, af, none⟩ :: rest) Q st := q_qstep hn h
theorem wantK_run {ops : List Oper} {dst : Option Tmp} {op : Op} {ty : TypeId} {pos : String} {af : Array Edge} {j : Nat} {want : Bool} {t : Nat} {y z : ASt → Prop} (hg : gvF tm ops j = some (t, want)) (ht : Nat.blt t n = true) (h : y (St L n ((t, bool want) :: tm) S own)) :
    wantK ops (St L n tm S own) ⟨dst, op, ty, pos, af, some (j, want)⟩ y z := by
  obtain ⟨q1, q2⟩ := gvF_ok (L := L) (n := n) (S := S) (own := own) hg
  unfold wantK
  simp only [q1, q2]
  refine ⟨Nat.le_of_ble_eq_true ht, fun hb => ?_, fun hb => ?_⟩
  · cases want with
    | true => exact h
    | false => cases hb
  · cases want with
    | true => cases hb
    | false => exact h
theorem wantK_skip {ops : List Oper} {dst : Option Tmp} {op : Op} {ty : TypeId} {pos : String} {af : Array Edge} {j : Nat} {want : Bool} {t : Nat} {y z : ASt → Prop} (hg : gvF tm ops j = some (t, !want)) (ht : Nat.blt t n = true) (h : z (St L n ((t, bool !want) :: tm) S own)) :
    wantK ops (St L n tm S own) ⟨dst, op, ty, pos, af, some (j, want)⟩ y z := by
  obtain ⟨q1, q2⟩ := gvF_ok (L := L) (n := n) (S := S) (own := own) hg
  unfold wantK
  simp only [q1, q2]
  refine ⟨Nat.le_of_ble_eq_true ht, fun hb => ?_, fun hb => ?_⟩
  · cases want with
    | true => cases hb
    | false => exact h
  · cases want with
    | true => exact h
    | false => cases hb
theorem q_callR {ops rest : List Oper} {Q : ASt → Prop} {dst : Option Tmp} {op : Op} {ty : TypeId} {pos : String} {af : Array Edge} {j : Nat} {want : Bool} {t : Nat} (hn : isQ ⟨dst, op, ty, pos, af, some (j, want)⟩ = false) (hg : gvF tm ops j = some (t, want)) (ht : Nat.blt t n = true)
    (h : acallQ P (St L n ((t, bool want) :: tm) S own) op (fun v => (St L n ((t, bool want) :: tm) S own).put dst v (qops P T ops rest Q))) : qops P T ops (⟨dst, op, ty, pos, af, some (j, want)⟩ :: rest) Q (St L n tm S own) :=
  wantK_run hg ht (q_qstep hn h)
theorem q_callS {ops rest : List Oper} {Q : ASt → Prop} {d : Tmp} {op : Op} {ty : TypeId} {pos : String} {af : Array Edge} {j : Nat} {want : Bool} {t : Nat} (hg : gvF tm ops j = some (t, !want)) (ht : Nat.blt t n = true) (hd : Nat.blt d n = true)
    (h : qops P T ops rest Q (St L n ((d, .tup []) :: (t, bool !want) :: tm) S own)) : qops P T ops (⟨some d, op, ty, pos, af, some (j, want)⟩ :: rest) Q (St L n tm S own) :=
  wantK_skip hg ht ⟨Nat.le_of_ble_eq_true hd, h⟩
theorem qops_eq {ops : List Oper} {Q : ASt → Prop} : ∀ (l : List Oper), l.all isQ = true → aops P T ops l Q = qops P T ops l Q
  | [], _ => rfl
  | o :: r, hq => by
    simp only [List.all_cons, Bool.and_eq_true] at hq
    funext st
    show wantK ops st o _ _ = wantK ops st o _ _
    rw [qops_eq r hq.2]
    congr 1
    funext s
    rw [x1_quiet hq.1]
    unfold qstep
    rw [hq.1]
theorem c_regionD {k : Nat} {l : List Oper} (hB : Region.lexB .any l.toArray = true) (hq : l.all isQ = true) (h : aops P T l l (Q .normal) st) : awp P T false (.region k l.toArray true) Q st := by
  unfold awp
  rw [if_pos rfl]
  exact .inl ⟨rfl, hB, by simpa using (qops_eq (P := P) (T := T) (ops := l) (Q := Q .normal) l hq) ▸ h⟩
/-- A region of quiet operations and calls of pure functions. -/
theorem c_regionQ {k : Nat} {l : List Oper} (hB : Region.lexB .any l.toArray = true) (h : qops P T l l (Q .normal) st) : awp P T false (.region k l.toArray true) Q st := by
  unfold awp
  rw [if_pos rfl]
  exact .inl ⟨rfl, hB, by simpa using h⟩

theorem c_condT {c : Operand} {x y : Code} (hc : evF tm c = some (bool true)) (h : awp P T rd x Q (St L n tm S own)) : awp P T rd (.cond c x y) Q (St L n tm S own) := by
  show kcond ((St L n tm S own).ev c) _ _
  rw [evF_ok hc]
  exact ⟨fun _ => h, fun e => by cases e⟩
theorem c_condF {c : Operand} {x y : Code} (hc : evF tm c = some (bool false)) (h : awp P T rd y Q (St L n tm S own)) : awp P T rd (.cond c x y) Q (St L n tm S own) := by
  show kcond ((St L n tm S own).ev c) _ _
  rw [evF_ok hc]
  exact ⟨(fun e => by cases e), fun _ => h⟩
theorem c_cond {c : Operand} {x y : Code} {b : Bool} {p : Prop} (hc : evF tm c = some (bool b)) (hb : Bp b p) (h1 : p → awp P T rd x Q (St L n tm S own)) (h2 : ¬ p → awp P T rd y Q (St L n tm S own)) :
    awp P T rd (.cond c x y) Q (St L n tm S own) := by
  show kcond ((St L n tm S own).ev c) _ _
  rw [evF_ok hc]
  exact ⟨fun e => h1 (hb.1 e), fun e => h2 fun hp => by rw [hb.2 hp] at e; cases e⟩

/-- Behind a round of a loop that goes by 'I', with a measure: the states at the head are told by 'tmI' and 'ownI'. -/
def kround {β : Type} (I : β → Prop) (m : β → Nat) (tmI : β → List (Nat × TV)) (ownI : β → List (Nat × AObj)) (L n : Nat) (S : Store) (b : β) (Q : Exit → ASt → Prop) : Exit → ASt → Prop :=
  kseq (fun s' => ∃ n', n' < m b ∧ ∃ b', I b' ∧ m b' = n' ∧ s' = St L n (tmI b') S (ownI b')) Q
theorem c_loop {β : Type} (I : β → Prop) (m : β → Nat) (tmI : β → List (Nat × TV)) (ownI : β → List (Nat × AObj)) {c : Code} (b0 : β) (h0 : I b0)
    (h1 : agree tm (tmI b0)) (h2 : oagree own (ownI b0)) (h3 : liveB (ownI b0) (tmI b0) = true) (h4 : liveOB (ownI b0) (ownI b0) = true)
    (hr : ∀ b, I b → awp P T rd c (kround I m tmI ownI L n S b Q) (St L n (tmI b) S (ownI b))) :
    awp P T rd (.loop c) Q (St L n tm S own) := by
  refine ⟨fun k s => ∃ b, I b ∧ m b = k ∧ s = St L n (tmI b) S (ownI b), m b0, _, .inr (wk_St h1 h2 h3 h4), ⟨b0, h0, rfl, rfl⟩, ?_⟩
  rintro k s ⟨b, hb, rfl, rfl⟩
  exact hr b hb
theorem k_back {β : Type} {I : β → Prop} {m : β → Nat} {tmI : β → List (Nat × TV)} {ownI : β → List (Nat × AObj)} {b : β} (b' : β) (hi : I b') (hm : m b' < m b)
    (h1 : agree tm (tmI b')) (h2 : oagree own (ownI b')) (h3 : liveB (ownI b') (tmI b') = true) (h4 : liveOB (ownI b') (ownI b') = true) :
    kround I m tmI ownI L n S b Q .normal (St L n tm S own) :=
  ⟨_, .inr (wk_St h1 h2 h3 h4), _, hm, b', hi, rfl, rfl⟩
theorem c_loopP {β : Type} (I : β → Prop) (m : β → Nat) (tmI : β → List (Nat × TV)) (ownI : β → List (Nat × AObj)) {c : Code} (b0 : β) (h0 : I b0)
    (h1 : agree tm (tmI b0)) (h2 : oagree own (ownI b0)) (h3 : liveP (ownI b0) L (tmI b0)) (h4 : liveOP (ownI b0) L (ownI b0))
    (hr : ∀ b, I b → awp P T rd c (kround I m tmI ownI L n S b Q) (St L n (tmI b) S (ownI b))) :
    awp P T rd (.loop c) Q (St L n tm S own) := by
  refine ⟨fun k s => ∃ b, I b ∧ m b = k ∧ s = St L n (tmI b) S (ownI b), m b0, _, .inr (wk_StP h1 h2 h3 h4), ⟨b0, h0, rfl, rfl⟩, ?_⟩
  rintro k s ⟨b, hb, rfl, rfl⟩
  exact hr b hb
theorem k_backP {β : Type} {I : β → Prop} {m : β → Nat} {tmI : β → List (Nat × TV)} {ownI : β → List (Nat × AObj)} {b : β} (b' : β) (hi : I b') (hm : m b' < m b)
    (h1 : agree tm (tmI b')) (h2 : oagree own (ownI b')) (h3 : liveP (ownI b') L (tmI b')) (h4 : liveOP (ownI b') L (ownI b')) :
    kround I m tmI ownI L n S b Q .normal (St L n tm S own) :=
  ⟨_, .inr (wk_StP h1 h2 h3 h4), _, hm, b', hi, rfl, rfl⟩
theorem kr_ret {β : Type} {I : β → Prop} {m : β → Nat} {tmI : β → List (Nat × TV)} {ownI : β → List (Nat × AObj)} {b : β} {L' n' : Nat} {S' : Store} (h : Q .ret st) : kround I m tmI ownI L' n' S' b Q .ret st := h
theorem kr_exit {β : Type} {I : β → Prop} {m : β → Nat} {tmI : β → List (Nat × TV)} {ownI : β → List (Nat × AObj)} {b : β} {L' n' : Nat} {S' : Store} {id : Nat} (h : Q (.exit id) st) : kround I m tmI ownI L' n' S' b Q (.exit id) st := h
/-- Behind the only round. -/
def kloop (K : ASt → Prop) (Q : Exit → ASt → Prop) : Exit → ASt → Prop := kseq K Q
theorem kl_ret {K : ASt → Prop} (h : Q .ret st) : kloop K Q .ret st := h
theorem kl_exit {K : ASt → Prop} {id : Nat} (h : Q (.exit id) st) : kloop K Q (.exit id) st := h
/-- A loop that is left in its first round. -/
theorem c_loop0 {c : Code} (h : awp P T rd c (kloop (fun s' => ∃ n', n' < 0 ∧ n' = 0 ∧ s' = st) Q) st) : awp P T rd (.loop c) Q st := by
  refine ⟨fun k s => k = 0 ∧ s = st, 0, st, .inl rfl, ⟨rfl, rfl⟩, ?_⟩
  rintro k s ⟨rfl, rfl⟩
  exact h
theorem k_normal {K : ASt → Prop} (h : K st) : kseq K Q .normal st := ⟨st, .inl rfl, h⟩
theorem k_wk {K : ASt → Prop} (tm' : List (Nat × TV)) (own' : List (Nat × AObj)) (h1 : agree tm tm') (h2 : oagree own own') (h3 : liveB own' tm' = true) (h4 : liveOB own' own' = true) (h : K (St L n tm' S own')) : kseq K Q .normal (St L n tm S own) :=
  ⟨_, .inr (wk_St h1 h2 h3 h4), h⟩
theorem k_wkP {K : ASt → Prop} (tm' : List (Nat × TV)) (own' : List (Nat × AObj)) (h1 : agree tm tm') (h2 : oagree own own') (h3 : liveP own' L tm') (h4 : liveOP own' L own') (h : K (St L n tm' S own')) : kseq K Q .normal (St L n tm S own) :=
  ⟨_, .inr (wk_StP h1 h2 h3 h4), h⟩
theorem k_ret {K : ASt → Prop} (h : Q .ret st) : kseq K Q .ret st := h
theorem k_exit {K : ASt → Prop} {id : Nat} (h : Q (.exit id) st) : kseq K Q (.exit id) st := h
theorem kb_normal {id : Nat} (h : Q .normal st) : kblock id Q .normal st := h
theorem kb_ret {id : Nat} (h : Q .ret st) : kblock id Q .ret st := h
theorem kb_hit {id : Nat} (h : Q .normal st) : kblock id Q (.exit id) st := by show if _ then _ else _; rw [if_pos rfl]; exact h
theorem kb_miss {id id' : Nat} (hn : Nat.beq id' id = false) (h : Q (.exit id') st) : kblock id Q (.exit id') st := by
  show if _ then _ else _
  rw [if_neg (fun e => by subst e; simp at hn)]
  exact h
end
end Go.Rd
