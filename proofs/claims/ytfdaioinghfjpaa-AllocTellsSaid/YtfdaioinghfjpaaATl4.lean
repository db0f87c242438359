/- The law AllocTells of the given program, for every input. (part 4 of 10) -/
import Derived.Test.YtfdaioinghfjpaaATl3
namespace Go.Rd
open Go.RowKit Go.Proofs
def alook : List (Nat × AObj) → Nat → Option AObj
  | [], _ => none
  | (k, o) :: r, b => match Nat.beq b k with
    | true => some o
    | false => alook r b
def mkO (S : Store) (L : Nat) (own : List (Nat × AObj)) : Store := fun l b => if l = L then alook own b else S l b
def St (L n : Nat) (tm : List (Nat × TV)) (S : Store) (own : List (Nat × AObj)) : ASt := ⟨L, n, tm, mkO S L own⟩
theorem mkO_nil {S : Store} {L : Nat} (h : Sup S L) : mkO S L [] = S := by
  funext l b
  unfold mkO
  split
  · rename_i e; subst e; rw [h l b (Nat.le_refl _)]; rfl
  · rfl
theorem mkO_own (S : Store) (L : Nat) (own : List (Nat × AObj)) (b : Nat) : mkO S L own L b = alook own b := by simp [mkO]
theorem mkO_low (S : Store) {L l : Nat} (own : List (Nat × AObj)) (b : Nat) (h : l < L) : mkO S L own l b = S l b := by
  unfold mkO; rw [if_neg (by omega)]
theorem mkO_upd (S : Store) (L : Nat) (own : List (Nat × AObj)) (b : Nat) (o : AObj) : upd (mkO S L own) L b (some o) = mkO S L ((b, o) :: own) := by
  funext l c
  by_cases hl : l = L
  · subst hl
    rw [mkO_own]
    simp only [upd, alook]
    by_cases hc : c = b
    · subst hc; simp
    · have : Nat.beq c b = false := by
        cases h : Nat.beq c b with
        | false => rfl
        | true => exact absurd (Nat.eq_of_beq_eq_true h) hc
      rw [if_neg (by simp [hc]), this, mkO_own]
  · rw [upd_ne _ _ (by simp [hl])]
    simp [mkO, hl]
theorem mkO_updlow (S : Store) {L l : Nat} (own : List (Nat × AObj)) (b : Nat) (o : Option AObj) (h : l < L) : upd (mkO S L own) l b o = mkO (upd S l b o) L own := by
  funext l' c
  by_cases hl : l' = L
  · subst hl; rw [upd_ne _ _ (by omega), mkO_own, mkO_own]
  · simp only [mkO, if_neg hl, upd]
theorem cut_mkO {S : Store} {L : Nat} (h : Sup S L) (own : List (Nat × AObj)) : cut (mkO S L own) L = S := by
  funext l b
  unfold cut mkO
  split
  · rw [if_neg (by omega)]
  · rw [h l b (by omega)]
def lk : List (Nat × TV) → Nat → TV
  | [], _ => .undef
  | (k, v) :: r, t => match Nat.beq t k with
    | true => v
    | false => lk r t
theorem lk_eq : ∀ (tm : List (Nat × TV)) (t : Nat), look tm t = lk tm t
  | [], _ => rfl
  | (k, v) :: r, t => by
    unfold look lk
    cases h : Nat.beq t k with
    | true => rw [if_pos (Nat.eq_of_beq_eq_true h)]
    | false => rw [if_neg (fun e => by subst e; simp at h), lk_eq r t]
def forceS : SV → Option SV
  | .undef => some .undef
  | .pv p => some (.pv p)
  | .pb l b j => some (.pb l b j)
  | .pr l b i j => some (.pr l b i j)
  | .sl l b off len => some (.sl l b off len)
  | .slc l b off len cap => some (.slc l b off len cap)
  | .clo f caps => some (.clo f caps)
def forceL : List SV → Option (List SV)
  | [] => some []
  | x :: r => match forceS x with
    | some y => match forceL r with
      | some r' => some (y :: r')
      | none => none
    | none => none
def forceA : AV → Option AV
  | .s x => match forceS x with
    | some y => some (.s y)
    | none => none
  | .agg xs => match forceL xs with
    | some ys => some (.agg ys)
    | none => none
  | .pel e es i j => some (.pel e es i j)
def forceAs : List AV → Option (List AV)
  | [] => some []
  | x :: r => match forceA x with
    | some y => match forceAs r with
      | some r' => some (y :: r')
      | none => none
    | none => none
def force : TV → Option TV
  | .undef => some .undef
  | .a x => match forceA x with
    | some y => some (.a y)
    | none => none
  | .tup xs => match forceAs xs with
    | some ys => some (.tup ys)
    | none => none
theorem forceS_eq (x : SV) : forceS x = some x := by
  unfold forceS; split <;> rfl
theorem forceL_eq : ∀ (xs : List SV), forceL xs = some xs
  | [] => rfl
  | x :: r => by unfold forceL; rw [forceS_eq, forceL_eq r]
theorem forceA_eq (x : AV) : forceA x = some x := by
  cases x with
  | s x => simp [forceA, forceS_eq]
  | agg xs => simp [forceA, forceL_eq]
  | pel => rfl
theorem forceAs_eq : ∀ (xs : List AV), forceAs xs = some xs
  | [] => rfl
  | x :: r => by unfold forceAs; rw [forceA_eq, forceAs_eq r]
theorem force_eq (x : TV) : force x = some x := by
  cases x with
  | undef => rfl
  | a x => simp [force, forceA_eq]
  | tup xs => simp [force, forceAs_eq]
def evF (tm : List (Nat × TV)) : Operand → Option TV
  | .tmp t => force (lk tm t)
  | .const v => force (constA v)
  | .func f => some (.a (.s (.clo f [])))
  | .global _ => none
section
variable {L n : Nat} {tm : List (Nat × TV)} {S : Store} {own : List (Nat × AObj)}
theorem St_get (t : Nat) : (St L n tm S own).get t = lk tm t := lk_eq tm t
theorem evF_ok {x : Operand} {v : TV} (h : evF tm x = some v) : (St L n tm S own).ev x = v := by
  cases x with
  | tmp t => simp only [evF, force_eq, Option.some.injEq] at h; rw [← h]; exact St_get t
  | const c => simp only [evF, force_eq, Option.some.injEq] at h; exact h
  | func f => simp only [evF, Option.some.injEq] at h; exact h
  | global g => simp [evF] at h
end
def binF (op : BinOp) (k : IntKind) (a b : Int) : Option TV :=
  match op with
  | .add => some (lit (.int k (k.wrap (a + b))))
  | .sub => some (lit (.int k (k.wrap (a - b))))
  | .mul => some (lit (.int k (k.wrap (a * b))))
  | .and => some (lit (.int k (bits .and k a b)))
  | .or => some (lit (.int k (bits .or k a b)))
  | .xor => some (lit (.int k (bits .xor k a b)))
  | .andNot => some (lit (.int k (bits .andNot k a b)))
  | .eql => some (bool (decide (a = b)))
  | .neq => some (bool (!decide (a = b)))
  | .lss => some (bool (decide (a < b)))
  | .leq => some (bool (decide (a ≤ b)))
  | .gtr => some (bool (decide (b < a)))
  | .geq => some (bool (decide (b ≤ a)))
  | _ => none
theorem binF_ok {op : BinOp} {k : IntKind} {a b : Int} {v : TV} {K : TV → Prop} (h : binF op k a b = some v) (hk : K v) : intOp op k a b K := by
  cases op <;> simp_all [binF, intOp]
def sameKind : IntKind → IntKind → Bool := fun a b => decide (a = b)
def cellsF (ti : TI) (cs : List SV) (j : Nat) : Option TV :=
  match ti.agg with
  | true => match Nat.ble (j + ti.size) cs.length with
    | true => force (.a (.agg ((cs.drop j).take ti.size)))
    | false => none
  | false => match cs[j]? with
    | some s => force (.a (.s s))
    | none => none
theorem cellsF_ok {ti : TI} {cs : List SV} {j : Nat} {v : TV} {K : TV → Prop} (h : cellsF ti cs j = some v) (hk : K v) : cellsK ti cs j K := by
  unfold cellsF at h
  unfold cellsK
  cases hg : ti.agg with
  | true =>
    simp only [hg] at h
    split at h
    · rename_i hb
      rw [force_eq] at h
      simp only [Option.some.injEq] at h
      exact ⟨Nat.le_of_ble_eq_true hb, by rw [h]; exact hk⟩
    · cases h
  | false =>
    simp only [hg] at h
    split at h
    · rename_i s hs
      rw [force_eq] at h
      simp only [Option.some.injEq] at h
      exact ⟨s, hs, by rw [h]; exact hk⟩
    · cases h
def fieldF (T : TypeId → Option TI) (s : TypeId) (f : Nat) : Option (Nat × TypeId × TI) :=
  match T s with
  | some ti => match ti.d with
    | .struct fs => match fs[f]? with
      | some (off, ft) => match T ft with
        | some fi => some (off, ft, fi)
        | none => none
      | none => none
    | _ => none
  | none => none
theorem fieldF_ok {T : TypeId → Option TI} {s : TypeId} {f off : Nat} {ft : TypeId} {fi : TI} (h : fieldF T s f = some (off, ft, fi)) :
    ∃ ti fs, T s = some ti ∧ ti.d = .struct fs ∧ fs[f]? = some (off, ft) ∧ T ft = some fi := by
  unfold fieldF at h
  split at h
  · rename_i ti hti
    split at h
    · rename_i fs hfs
      split at h
      · rename_i off' ft' hf
        split at h
        · rename_i fi' hfi
          simp only [Option.some.injEq, Prod.mk.injEq] at h
          obtain ⟨rfl, rfl, rfl⟩ := h
          exact ⟨ti, fs, hti, hfs, hf, hfi⟩
        · cases h
      · cases h
    · cases h
  · cases h
def fillF (T : TypeId → Option TI) (fs : List (Nat × TypeId)) (tm : List (Nat × TV)) : List SV → List (Nat × Operand) → Option (List SV)
  | cs, [] => some cs
  | cs, (i, x) :: r => match fs[i]? with
    | some (off, ft) => match T ft with
      | some fi => match Nat.ble (off + fi.size) cs.length with
        | true => match evF tm x with
          | some (.a (.s v)) => match Nat.beq fi.size 1 with
            | true => match forceL (lay cs off [v]) with
              | some cs' => fillF T fs tm cs' r
              | none => none
            | false => none
          | some (.a (.agg vs)) => match Nat.beq vs.length fi.size with
            | true => match forceL (lay cs off vs) with
              | some cs' => fillF T fs tm cs' r
              | none => none
            | false => none
          | _ => none
        | false => none
      | none => none
    | none => none
section
variable {P : Program} {T : TypeId → Option TI} {L n : Nat} {tm : List (Nat × TV)} {S : Store} {own : List (Nat × AObj)}
theorem fillF_ok {fs : List (Nat × TypeId)} {K : List SV → Prop} : ∀ (parts : List (Nat × Operand)) {cs v : List SV}, fillF T fs tm cs parts = some v → K v → fillA T fs (St L n tm S own).ev cs parts K
  | [], cs, v, h, hk => by simp only [fillF, Option.some.injEq] at h; subst h; exact hk
  | (i, x) :: r, cs, v, h, hk => by
    unfold fillF at h
    unfold fillA
    split at h
    · rename_i off ft hf
      split at h
      · rename_i fi hfi
        split at h
        · rename_i hb
          refine ⟨off, ft, fi, hf, hfi, Nat.le_of_ble_eq_true hb, ?_⟩
          split at h
          · rename_i w hw
            rw [evF_ok hw]
            split at h
            · rename_i h1
              rw [forceL_eq] at h
              exact ⟨Nat.eq_of_beq_eq_true h1, fillF_ok r h hk⟩
            · cases h
          · rename_i ws hw
            rw [evF_ok hw]
            split at h
            · rename_i h1
              rw [forceL_eq] at h
              exact ⟨Nat.eq_of_beq_eq_true h1, fillF_ok r h hk⟩
            · cases h
          · cases h
        · cases h
      · cases h
    · cases h
end
def boxesF (tm : List (Nat × TV)) : List Operand → Option (List (Nat × Nat))
  | [] => some []
  | x :: r => match evF tm x with
    | some (.a (.s (.pb l b j))) => match Nat.beq j 0 with
      | true => match boxesF tm r with
        | some bs => some ((l, b) :: bs)
        | none => none
      | false => none
    | _ => none
def isBoolT (T : TypeId → Option TI) (t : TypeId) : Bool := match T t with
  | some ti => match ti.d with
    | .bool => true
    | _ => false
  | none => false
theorem isBoolT_ok {P : Program} {T : TypeId → Option TI} (hT : TOk P T) {t : TypeId} (h : isBoolT T t = true) : P.underlying t = some .bool := by
  unfold isBoolT at h
  split at h
  · rename_i ti hti
    split at h
    · rename_i hd
      have := (hT t ti hti).desc
      rw [hd] at this
      exact this.1
    · cases h
  · cases h
def intT (T : TypeId → Option TI) (t : TypeId) : Option IntKind := match T t with
  | some ti => match ti.d with
    | .int k => some k
    | _ => none
  | none => none
theorem intT_ok {P : Program} {T : TypeId → Option TI} (hT : TOk P T) {t : TypeId} {k : IntKind} (h : intT T t = some k) : P.underlying t = some (.int k) := by
  unfold intT at h
  split at h
  · rename_i ti hti
    split at h
    · rename_i k' hd
      have := (hT t ti hti).desc
      rw [hd] at this
      simp only [Option.some.injEq] at h
      subst h
      exact this.1
    · cases h
  · cases h
def sliceT (T : TypeId → Option TI) (t : TypeId) : Option (TypeId × TI) := match T t with
  | some ti => match ti.d with
    | .slice e => match T e with
      | some ei => some (e, ei)
      | none => none
    | _ => none
  | none => none
theorem sliceT_ok {T : TypeId → Option TI} {t e : TypeId} {ei : TI} (h : sliceT T t = some (e, ei)) : ∃ ti, T t = some ti ∧ ti.d = .slice e ∧ T e = some ei := by
  unfold sliceT at h
  split at h
  · rename_i ti hti
    split at h
    · rename_i e' hd
      split at h
      · rename_i ei' hei
        simp only [Option.some.injEq, Prod.mk.injEq] at h
        obtain ⟨rfl, rfl⟩ := h
        exact ⟨ti, hti, hd, hei⟩
      · cases h
    · cases h
  · cases h
theorem sliceT_und {P : Program} {T : TypeId → Option TI} (hT : TOk P T) {t : TypeId} {x : TypeId × TI} (h : sliceT T t = some x) : ∃ e, P.underlying t = some (.slice e) := by
  obtain ⟨e, ei⟩ := x
  obtain ⟨ti, h1, h2, _⟩ := sliceT_ok h
  have := (hT t ti h1).desc
  rw [h2] at this
  exact ⟨e, this.1⟩
def nilF (op : BinOp) (r : Bool) : Option TV := match op with
  | .eql => some (bool r)
  | .neq => some (bool (!r))
  | _ => none
def xqf (T : TypeId → Option TI) (tm : List (Nat × TV)) : Op → Option TV
  | .move x => evF tm x
  | .assign x => evF tm x
  | .pick c x y => match evF tm c with
    | some (.a (.s (.pv (.lit (.bool b))))) => match b with
      | true => evF tm x
      | false => evF tm y
    | _ => none
  | .binOp op t x y _ => match evF tm x with
    | some (.a (.s (.pv (.lit (.int k a))))) => match evF tm y with
      | some (.a (.s (.pv (.lit (.int k' b))))) => match sameKind k k' with
        | true => binF op k a b
        | false => none
      | _ => none
    | some (.a (.s (.pv (.lit (.bool a))))) => match evF tm y with
      | some (.a (.s (.pv (.lit (.bool b))))) => match isBoolT T t with
        | true => match op with
          | .eql => some (bool (a == b))
          | .neq => some (bool (!(a == b)))
          | _ => none
        | false => none
      | _ => none
    | some (.a (.s (.pv (.row _ _)))) => match evF tm y, sliceT T t with
      | some (.a (.s (.pv (.lit (.slice none 0 0))))), some _ => nilF op false
      | _, _ => none
    | some (.a (.s (.sl _ _ _ _))) => match evF tm y, sliceT T t with
      | some (.a (.s (.pv (.lit (.slice none 0 0))))), some _ => nilF op false
      | _, _ => none
    | some (.a (.s (.pv (.lit (.slice none 0 0))))) => match evF tm y, sliceT T t with
      | some (.a (.s (.pv (.lit (.slice none 0 0))))), some _ => nilF op true
      | _, _ => none
    | _ => none
  | .unOp op _ x => match op, evF tm x with
    | .not, some (.a (.s (.pv (.lit (.bool b))))) => some (bool (!b))
    | .neg, some (.a (.s (.pv (.lit (.int k m))))) => some (lit (.int k (k.wrap (-m))))
    | _, _ => none
  | .convert s d x => match evF tm x with
    | some (.a (.s (.pv (.lit (.int _ m))))) => match T s with
      | some _ => match intT T d with
        | some k => some (lit (.int k (k.wrap m)))
        | none => none
      | none => none
    | _ => none
  | .fieldAddr s x f => match fieldF T s f with
    | some (off, _, fi) => match Nat.beq fi.size 0 with
      | false => match evF tm x with
        | some (.a (.s (.pb l b j))) => some (.a (.s (.pb l b (j + off))))
        | some (.a (.s (.pr l b i j))) => some (.a (.s (.pr l b i (j + off))))
        | some (.a (.pel esz es i j)) => some (.a (.pel esz es i (j + off)))
        | _ => none
      | true => none
    | none => none
  | .field s x f => match fieldF T s f with
    | some (off, _, fi) => match evF tm x with
      | some (.a (.agg cs)) => cellsF fi cs off
      | _ => none
    | none => none
  | .extract t ix => match evF tm t with
    | some (.tup xs) => match xs[ix]? with
      | some v => force (.a v)
      | none => none
    | _ => none
  | .makeFunc fn first caps => match fn, first.toList with
    | .func f, [] => match boxesF tm caps.toList with
      | some bs => some (.a (.s (.clo f bs)))
      | none => none
    | _, _ => none
  | .build t parts => match T t with
    | some ti => match ti.d with
      | .struct fs => match fs.all fun p => (T p.2).isSome with
        | true => match forceL (ti.zero.map fun v => .pv (.lit v)) with
          | some cs => match fillF T fs tm cs parts.toList with
            | some cs' => some (.a (.agg cs'))
            | none => none
          | none => none
        | false => none
      | _ => none
    | none => none
  | _ => none
section
variable {P : Program} {T : TypeId → Option TI} {L n : Nat} {tm : List (Nat × TV)} {S : Store} {own : List (Nat × AObj)}
theorem boxesF_ok : ∀ (xs : List Operand) {bs : List (Nat × Nat)}, boxesF tm xs = some bs → boxesOf (xs.map (St L n tm S own).ev) = some bs
  | [], bs, h => by simpa [boxesF, boxesOf] using h
  | x :: r, bs, h => by
    unfold boxesF at h
    split at h
    · rename_i l b j hx
      split at h
      · rename_i hj
        split at h
        · rename_i bs' hb
          simp only [Option.some.injEq] at h
          subst h
          have hj' := Nat.eq_of_beq_eq_true hj
          subst hj'
          simp only [List.map_cons, evF_ok hx, boxesOf, boxesF_ok r hb, Option.map_some]
        · cases h
      · cases h
    · cases h
theorem xqf_ok (hT : TOk P T) {op : Op} {v : TV} {K : TV → ASt → Prop} {d : Nat} (h : xqf T tm op = some v) (hk : K v (St L n tm S own)) : x1 P T (St L n tm S own) d op K := by
  cases op <;> simp only [xqf] at h <;> try (exact absurd h (by simp))
  case move x => simp only [x1]; rw [evF_ok h]; exact hk
  case assign x => simp only [x1]; rw [evF_ok h]; exact hk
  case pick c x y =>
    simp only [x1]
    split at h
    · rename_i b hc
      rw [evF_ok hc]
      split at h
      · rw [evF_ok h]; exact ⟨fun _ => hk, fun e => by cases e⟩
      · rw [evF_ok h]; exact ⟨(fun e => by cases e), fun _ => hk⟩
    · cases h
  case binOp op t x y t2 =>
    simp only [x1]
    left
    split at h
    · rename_i k a hx
      rw [evF_ok hx]
      split at h
      · rename_i k' b hy
        rw [evF_ok hy]
        split at h
        · rename_i hkk
          have := of_decide_eq_true hkk
          subst this
          exact ⟨.inl rfl, binF_ok h hk⟩
        · cases h
      · cases h
    · rename_i a hx
      rw [evF_ok hx]
      split at h
      · rename_i b hy
        rw [evF_ok hy]
        split at h
        · rename_i hb
          refine ⟨isBoolT_ok hT hb, ?_⟩
          split at h
          · simp only [Option.some.injEq] at h; subst h; exact hk
          · simp only [Option.some.injEq] at h; subst h; exact hk
          · cases h
        · cases h
      · cases h
    · rename_i q1 q2 hx
      rw [evF_ok hx]
      split at h
      · rename_i sl hy hs
        rw [evF_ok hy]
        refine ⟨sliceT_und hT hs, ?_⟩
        cases op <;> simp only [nilF] at h <;> first | (cases h; exact hk) | cases h
      · cases h
    · rename_i q1 q2 q3 q4 hx
      rw [evF_ok hx]
      split at h
      · rename_i sl hy hs
        rw [evF_ok hy]
        refine ⟨sliceT_und hT hs, ?_⟩
        cases op <;> simp only [nilF] at h <;> first | (cases h; exact hk) | cases h
      · cases h
    · rename_i hx
      rw [evF_ok hx]
      split at h
      · rename_i sl hy hs
        rw [evF_ok hy]
        refine ⟨sliceT_und hT hs, ?_⟩
        cases op <;> simp only [nilF] at h <;> first | (cases h; exact hk) | cases h
      · cases h
    · cases h
  case unOp op t x =>
    simp only [x1]
    split at h
    · rename_i b hx
      rw [evF_ok hx]
      simp only [Option.some.injEq] at h; subst h; exact hk
    · rename_i k m hx
      rw [evF_ok hx]
      simp only [Option.some.injEq] at h; subst h; exact hk
    · cases h
  case convert s d x =>
    simp only [x1]
    split at h
    · rename_i m _ hx
      rw [evF_ok hx]
      split at h
      · rename_i si hs
        split at h
        · rename_i k hd
          simp only [Option.some.injEq] at h; subst h
          have h1 : (P.underlying s).isSome = true := by
            have := (hT s si hs).desc
            obtain ⟨dd, agg, size, bytes, zero⟩ := si
            cases dd <;> simp only [TD.ok] at this
            case struct => obtain ⟨⟨f, hf, _⟩, _⟩ := this; simp [hf]
            case other => obtain ⟨⟨f, hf, _⟩, _⟩ := this; simp [hf]
            all_goals (simp [this.1])
          exact ⟨h1, .inl ⟨k, intT_ok hT hd, hk⟩⟩
        · cases h
      · cases h
    · cases h
  case fieldAddr s x f =>
    simp only [x1]
    split at h
    · rename_i off ft fi hf
      obtain ⟨ti, fs, q1, q2, q3, q4⟩ := fieldF_ok hf
      split at h
      · rename_i hz
        have hz' : fi.size ≠ 0 := fun e => by rw [e] at hz; cases hz
        refine ⟨ti, fs, off, ft, fi, q1, q2, q3, q4, hz', ?_⟩
        split at h
        · rename_i l b j hx
          rw [evF_ok hx]; simp only [Option.some.injEq] at h; subst h; exact hk
        · rename_i l b i j hx
          rw [evF_ok hx]; simp only [Option.some.injEq] at h; subst h; exact hk
        · rename_i esz es i j hx
          rw [evF_ok hx]; simp only [Option.some.injEq] at h; subst h; exact hk
        · cases h
      · cases h
    · cases h
  case field s x f =>
    simp only [x1]
    split at h
    · rename_i off ft fi hf
      obtain ⟨ti, fs, q1, q2, q3, q4⟩ := fieldF_ok hf
      refine ⟨ti, fs, off, ft, fi, q1, q2, q3, q4, ?_⟩
      split at h
      · rename_i cs hx
        rw [evF_ok hx]
        exact cellsF_ok h hk
      · cases h
    · cases h
  case extract t ix =>
    simp only [x1]
    split at h
    · rename_i xs hx
      rw [evF_ok hx]
      split at h
      · rename_i v' hv
        rw [force_eq] at h
        simp only [Option.some.injEq] at h; subst h
        exact ⟨v', hv, hk⟩
      · cases h
    · cases h
  case makeFunc fn first caps =>
    simp only [x1]
    split at h
    · rename_i f hfirst
      split at h
      · rename_i bs hb
        simp only [Option.some.injEq] at h; subst h
        have h0 : first = #[] := by
          obtain ⟨l⟩ := first
          simp only at hfirst
          rw [hfirst]
        exact ⟨h0, bs, boxesF_ok _ hb, hk⟩
      · cases h
    · cases h
  case build t parts =>
    simp only [x1]
    split at h
    · rename_i ti hti
      split at h
      · rename_i fs hd
        split at h
        · rename_i hall
          rw [forceL_eq] at h
          simp only at h
          split at h
          · rename_i cs' hf
            simp only [Option.some.injEq] at h; subst h
            exact ⟨ti, fs, hti, hd, fun p hp => List.all_eq_true.1 hall p hp, fillF_ok _ hf hk⟩
          · cases h
        · cases h
      · cases h
    · cases h
end
end Go.Rd
namespace Go.Rd
open Go.RowKit Go.Proofs
def aop1 (P : Program) (T : TypeId → Option TI) (ops rest : List Oper) (Q : ASt → Prop) (o : Oper) (st : ASt) : Prop :=
  x1 P T st (o.dst.getD st.n) o.op fun v st' => st'.put o.dst v (aops P T ops rest Q)
def Bp (b : Bool) (p : Prop) : Prop := b = true ↔ p
theorem Bp.dec {p : Prop} [h : Decidable p] : Bp (decide p) p := decide_eq_true_iff
theorem Bp.not {b : Bool} {p : Prop} (h : Bp b p) : Bp (!b) (¬ p) := by unfold Bp at *; rw [← h]; cases b <;> simp
theorem Bp.and {a b : Bool} {p q : Prop} (h : Bp a p) (h' : Bp b q) : Bp (a && b) (p ∧ q) := by unfold Bp at *; rw [← h, ← h']; simp
theorem Bp.or {a b : Bool} {p q : Prop} (h : Bp a p) (h' : Bp b q) : Bp (a || b) (p ∨ q) := by unfold Bp at *; rw [← h, ← h']; simp
theorem Bp.bool {b : Bool} : Bp b (b = true) := Iff.rfl
def gvF (tm : List (Nat × TV)) (ops : List Oper) (j : Nat) : Option (Nat × Bool) :=
  match ops[j]? with
  | some o => match o.dst with
    | some t => match lk tm t with
      | .a (.s (.pv (.lit (.bool b)))) => some (t, b)
      | _ => none
    | none => none
  | none => none
section
variable {P : Program} {T : TypeId → Option TI} {L n : Nat} {tm : List (Nat × TV)} {S : Store} {own : List (Nat × AObj)} {ops rest : List Oper} {Q : ASt → Prop}
theorem gvF_ok {j t : Nat} {b : Bool} (h : gvF tm ops j = some (t, b)) : (ops[j]?).bind (·.dst) = some t ∧ (St L n tm S own).get t = bool b := by
  unfold gvF at h
  split at h
  · rename_i o ho
    split at h
    · rename_i t' ht
      split at h
      · rename_i b' hb
        simp only [Option.some.injEq, Prod.mk.injEq] at h
        obtain ⟨rfl, rfl⟩ := h
        exact ⟨by simp [ho, ht], by rw [St_get]; exact hb⟩
      · cases h
    · cases h
  · cases h
theorem want_none {dst : Option Tmp} {op : Op} {ty : TypeId} {pos : String} {af : Array Edge} {st : ASt} (h : aop1 P T ops rest Q ⟨dst, op, ty, pos, af, none⟩ st) :
    aops P T ops (⟨dst, op, ty, pos, af, none⟩ :: rest) Q st := h
theorem want_both {dst : Option Tmp} {op : Op} {ty : TypeId} {pos : String} {af : Array Edge} {j : Nat} {want : Bool} {t : Nat} {b : Bool} (hg : gvF tm ops j = some (t, b)) (ht : Nat.blt t n = true)
    (h1 : b = want → aop1 P T ops rest Q ⟨dst, op, ty, pos, af, some (j, want)⟩ (St L n ((t, bool want) :: tm) S own))
    (h2 : b = !want → (St L n ((t, bool !want) :: tm) S own).put dst (.tup []) (aops P T ops rest Q)) :
    aops P T ops (⟨dst, op, ty, pos, af, some (j, want)⟩ :: rest) Q (St L n tm S own) := by
  obtain ⟨q1, q2⟩ := gvF_ok (L := L) (n := n) (S := S) (own := own) hg
  show wantK ops _ _ _ _
  unfold wantK
  simp only [q1, q2]
  refine ⟨Nat.le_of_ble_eq_true ht, fun hb => ?_, fun hb => ?_⟩
  · subst hb
    cases want with
    | true => exact h1 rfl
    | false => exact h2 rfl
  · subst hb
    cases want with
    | true => exact h2 rfl
    | false => exact h1 rfl
theorem want_run {dst : Option Tmp} {op : Op} {ty : TypeId} {pos : String} {af : Array Edge} {j : Nat} {want : Bool} {t : Nat} (hg : gvF tm ops j = some (t, want)) (ht : Nat.blt t n = true)
    (h1 : aop1 P T ops rest Q ⟨dst, op, ty, pos, af, some (j, want)⟩ (St L n ((t, bool want) :: tm) S own)) :
    aops P T ops (⟨dst, op, ty, pos, af, some (j, want)⟩ :: rest) Q (St L n tm S own) :=
  want_both hg ht (fun _ => h1) (fun e => by cases want <;> cases e)
theorem want_skip {d : Tmp} {op : Op} {ty : TypeId} {pos : String} {af : Array Edge} {j : Nat} {want : Bool} {t : Nat} (hg : gvF tm ops j = some (t, !want)) (ht : Nat.blt t n = true) (hd : Nat.blt d n = true)
    (h1 : aops P T ops rest Q (St L n ((d, .tup []) :: (t, bool !want) :: tm) S own)) :
    aops P T ops (⟨some d, op, ty, pos, af, some (j, want)⟩ :: rest) Q (St L n tm S own) :=
  want_both hg ht (fun e => by cases want <;> cases e) (fun _ => ⟨Nat.le_of_ble_eq_true hd, h1⟩)
theorem want_forkT {d : Tmp} {op : Op} {ty : TypeId} {pos : String} {af : Array Edge} {j : Nat} {t : Nat} {b : Bool} {p : Prop} (hg : gvF tm ops j = some (t, b)) (ht : Nat.blt t n = true) (hd : Nat.blt d n = true) (hb : Bp b p)
    (h1 : p → aop1 P T ops rest Q ⟨some d, op, ty, pos, af, some (j, true)⟩ (St L n ((t, bool true) :: tm) S own))
    (h2 : ¬ p → aops P T ops rest Q (St L n ((d, .tup []) :: (t, bool false) :: tm) S own)) :
    aops P T ops (⟨some d, op, ty, pos, af, some (j, true)⟩ :: rest) Q (St L n tm S own) :=
  want_both hg ht (fun e => h1 (hb.1 e)) (fun e => ⟨Nat.le_of_ble_eq_true hd, h2 fun hp => by rw [hb.2 hp] at e; cases e⟩)
theorem want_forkF {d : Tmp} {op : Op} {ty : TypeId} {pos : String} {af : Array Edge} {j : Nat} {t : Nat} {b : Bool} {p : Prop} (hg : gvF tm ops j = some (t, b)) (ht : Nat.blt t n = true) (hd : Nat.blt d n = true) (hb : Bp b p)
    (h1 : p → aops P T ops rest Q (St L n ((d, .tup []) :: (t, bool true) :: tm) S own))
    (h2 : ¬ p → aop1 P T ops rest Q ⟨some d, op, ty, pos, af, some (j, false)⟩ (St L n ((t, bool false) :: tm) S own)) :
    aops P T ops (⟨some d, op, ty, pos, af, some (j, false)⟩ :: rest) Q (St L n tm S own) :=
  want_both hg ht (fun e => h2 fun hp => by rw [hb.2 hp] at e; cases e) (fun e => ⟨Nat.le_of_ble_eq_true hd, h1 (hb.1 e)⟩)
def gvU (tm : List (Nat × TV)) (ops : List Oper) (j : Nat) : Option Nat :=
  match ops[j]? with
  | some o => match o.dst with
    | some t => match lk tm t with
      | .tup [] => some t
      | _ => none
    | none => none
  | none => none
theorem want_out {d : Tmp} {op : Op} {ty : TypeId} {pos : String} {af : Array Edge} {j : Nat} {want : Bool} {t : Nat} (hg : gvU tm ops j = some t) (ht : Nat.blt t n = true) (hd : Nat.blt d n = true)
    (h1 : aops P T ops rest Q (St L n ((d, .tup []) :: tm) S own)) : aops P T ops (⟨some d, op, ty, pos, af, some (j, want)⟩ :: rest) Q (St L n tm S own) := by
  have q : (ops[j]?).bind (·.dst) = some t ∧ (St L n tm S own).get t = .tup [] := by
    unfold gvU at hg
    split at hg
    · rename_i o ho
      split at hg
      · rename_i t' ht'
        split at hg
        · rename_i hl
          simp only [Option.some.injEq] at hg
          subst hg
          exact ⟨by simp [ho, ht'], by rw [St_get]; exact hl⟩
        · cases hg
      · cases hg
    · cases hg
  show wantK ops _ _ _ _
  unfold wantK
  simp only [q.1, q.2]
  exact ⟨Nat.le_of_ble_eq_true ht, Nat.le_of_ble_eq_true hd, h1⟩
theorem aops_nil {st : ASt} (h : Q st) : aops P T ops [] Q st := h
variable {d : Tmp} {ty : TypeId} {pos : String} {af : Array Edge} {g : Option (Nat × Bool)}
theorem put_some {v : TV} {K : ASt → Prop} (hd : Nat.blt d n = true) (h : K (St L n ((d, v) :: tm) S own)) : (St L n tm S own).put (some d) v K := ⟨Nat.le_of_ble_eq_true hd, h⟩
theorem st_q (hT : TOk P T) {op : Op} {v : TV} (h : xqf T tm op = some v) (hd : Nat.blt d n = true) (hk : aops P T ops rest Q (St L n ((d, v) :: tm) S own)) :
    aop1 P T ops rest Q ⟨some d, op, ty, pos, af, g⟩ (St L n tm S own) := xqf_ok hT (K := fun v st' => st'.put (some d) v (aops P T ops rest Q)) h (put_some hd hk)
theorem wrap_id {x : Int} (h1 : -9223372036854775808 ≤ x) (h2 : x ≤ 9223372036854775807) : IntKind.i64.wrap x = x :=
  by rw [IntKind.wrap_i64]; omega
theorem st_add {t t2 : TypeId} {x y : Operand} {a b : Int} (hx : evF tm x = some (int a)) (hy : evF tm y = some (int b)) (hd : Nat.blt d n = true) (h1 : -9223372036854775808 ≤ a + b ∧ a + b ≤ 9223372036854775807)
    (hk : aops P T ops rest Q (St L n ((d, int (a + b)) :: tm) S own)) : aop1 P T ops rest Q ⟨some d, .binOp .add t x y t2, ty, pos, af, g⟩ (St L n tm S own) := by
  simp only [aop1, x1, evF_ok hx, evF_ok hy]
  left
  refine ⟨.inl rfl, ?_⟩
  show (St L n tm S own).put (some d) (lit (.int .i64 (IntKind.i64.wrap (a + b)))) _
  rw [wrap_id h1.1 h1.2]
  exact put_some hd hk
theorem st_sub {t t2 : TypeId} {x y : Operand} {a b : Int} (hx : evF tm x = some (int a)) (hy : evF tm y = some (int b)) (hd : Nat.blt d n = true) (h1 : -9223372036854775808 ≤ a - b ∧ a - b ≤ 9223372036854775807)
    (hk : aops P T ops rest Q (St L n ((d, int (a - b)) :: tm) S own)) : aop1 P T ops rest Q ⟨some d, .binOp .sub t x y t2, ty, pos, af, g⟩ (St L n tm S own) := by
  simp only [aop1, x1, evF_ok hx, evF_ok hy]
  left
  refine ⟨.inl rfl, ?_⟩
  show (St L n tm S own).put (some d) (lit (.int .i64 (IntKind.i64.wrap (a - b)))) _
  rw [wrap_id h1.1 h1.2]
  exact put_some hd hk
theorem st_neqagg {t t2 : TypeId} {x y : Operand} {xs ys : List SV} {us vs : List Value} {r : Bool} (hx : evF tm x = some (.a (.agg xs))) (hy : evF tm y = some (.a (.agg ys))) (h1 : lits xs = some us) (h2 : lits ys = some vs) (hd : Nat.blt d n = true) (he : EqAt P t us vs r)
    (hk : aops P T ops rest Q (St L n ((d, bool (!r)) :: tm) S own)) : aop1 P T ops rest Q ⟨some d, .binOp .neq t x y t2, ty, pos, af, g⟩ (St L n tm S own) := by
  simp only [aop1, x1, evF_ok hx, evF_ok hy]
  left
  exact ⟨us, vs, r, h1, h2, he, put_some hd hk⟩
theorem drop_none {st : ASt} {b : Nat} (h : st.O st.L b = none) : st.drop b = st := by unfold ASt.drop; rw [h]
theorem drop_St {b : Nat} (h : alook own b = none) : (St L n tm S own).drop b = St L n tm S own := drop_none (by show mkO S L own L b = none; rw [mkO_own]; exact h)
theorem st_alloc {e : TypeId} {ti : TI} {cs : List SV} (ho : alook own d = none) (ht : T e = some ti) (hc : forceL (ti.zero.map fun v => .pv (.lit v)) = some cs) (hd : Nat.blt d n = true)
    (hk : aops P T ops rest Q (St L n ((d, .a (.s (.pb L d 0))) :: tm) S ((d, .box e cs) :: own))) : aop1 P T ops rest Q ⟨some d, .alloc e, ty, pos, af, g⟩ (St L n tm S own) := by
  simp only [aop1, x1]
  refine ⟨ti, ht, ?_⟩
  rw [forceL_eq] at hc
  simp only [Option.some.injEq] at hc
  rw [hc]
  show mkBox ((St L n tm S own).drop d) d e cs _
  rw [drop_St ho]
  unfold mkBox
  show ASt.put ⟨L, n, tm, upd (mkO S L own) L d (some (.box e cs))⟩ (some d) (.a (.s (.pb L d 0))) _
  rw [mkO_upd]
  exact put_some hd hk
theorem st_box {e : TypeId} {x : Operand} {v : TV} {xs : List SV} (ho : alook own d = none) (hx : evF tm x = some v) (hc : cellsOf v = some xs) (hd : Nat.blt d n = true)
    (hk : aops P T ops rest Q (St L n ((d, .a (.s (.pb L d 0))) :: tm) S ((d, .box e xs) :: own))) : aop1 P T ops rest Q ⟨some d, .box e x, ty, pos, af, g⟩ (St L n tm S own) := by
  simp only [aop1, x1]
  show eBox (St L n tm S own) d e x _
  unfold eBox
  rw [drop_St ho, evF_ok hx]
  refine ⟨xs, hc, ?_⟩
  unfold mkBox
  show ASt.put ⟨L, n, tm, upd (mkO S L own) L d (some (.box e xs))⟩ (some d) (.a (.s (.pb L d 0))) _
  rw [mkO_upd]
  exact put_some hd hk
theorem st_load {t e : TypeId} {x : Operand} {b j : Nat} {cs : List SV} {ti : TI} {v : TV} (hx : evF tm x = some (.a (.s (.pb L b j)))) (ho : alook own b = some (.box e cs)) (ht : T t = some ti)
    (hv : cellsF ti cs j = some v) (hd : Nat.blt d n = true) (hk : aops P T ops rest Q (St L n ((d, v) :: tm) S own)) : aop1 P T ops rest Q ⟨some d, .load t x, ty, pos, af, g⟩ (St L n tm S own) := by
  simp only [aop1, x1, evF_ok hx]
  refine ⟨ti, ht, ?_⟩
  have : (St L n tm S own).O L b = some (.box e cs) := by show mkO S L own L b = _; rw [mkO_own]; exact ho
  simp only [this]
  exact cellsF_ok hv (K := fun v => (St L n tm S own).put (some d) v (aops P T ops rest Q)) (put_some hd hk)
theorem st_loadlow {t e : TypeId} {x : Operand} {l b j : Nat} {cs : List SV} {ti : TI} {v : TV} (hx : evF tm x = some (.a (.s (.pb l b j)))) (hl : l < L) (ho : S l b = some (.box e cs)) (ht : T t = some ti)
    (hv : cellsF ti cs j = some v) (hd : Nat.blt d n = true) (hk : aops P T ops rest Q (St L n ((d, v) :: tm) S own)) : aop1 P T ops rest Q ⟨some d, .load t x, ty, pos, af, g⟩ (St L n tm S own) := by
  simp only [aop1, x1, evF_ok hx]
  refine ⟨ti, ht, ?_⟩
  have : (St L n tm S own).O l b = some (.box e cs) := by show mkO S L own l b = _; rw [mkO_low _ _ _ hl]; exact ho
  simp only [this]
  exact cellsF_ok hv (K := fun v => (St L n tm S own).put (some d) v (aops P T ops rest Q)) (put_some hd hk)
theorem st_loadpel {α : Type} {enc : α → List PV} {l : List α} {t : TypeId} {x : Operand} {esz i j : Nat} {ti : TI} (hx : evF tm x = some (.a (.pel esz (l.map enc) i j))) (ht : T t = some ti) (hi : i < l.length)
    (hd : Nat.blt d n = true) (hk : ∀ u, l[i]? = some u → ∃ v, cellsF ti ((enc u).map .pv) j = some v ∧ aops P T ops rest Q (St L n ((d, v) :: tm) S own)) :
    aop1 P T ops rest Q ⟨some d, .load t x, ty, pos, af, g⟩ (St L n tm S own) := by
  simp only [aop1, x1, evF_ok hx]
  refine ⟨ti, ht, ?_⟩
  obtain ⟨v, h1, h2⟩ := hk l[i] (List.getElem?_eq_getElem hi)
  exact ⟨enc l[i], by simp [hi], cellsF_ok h1 (K := fun v => (St L n tm S own).put (some d) v (aops P T ops rest Q)) (put_some hd h2)⟩
theorem st_loadpelK {α : Type} {enc : α → List PV} {l : List α} {u : α} {t : TypeId} {x : Operand} {esz i j : Nat} {ti : TI} {v : TV} (hx : evF tm x = some (.a (.pel esz (l.map enc) i j))) (ht : T t = some ti) (hu : l[i]? = some u)
    (hv : cellsF ti ((enc u).map .pv) j = some v) (hd : Nat.blt d n = true) (hk : aops P T ops rest Q (St L n ((d, v) :: tm) S own)) :
    aop1 P T ops rest Q ⟨some d, .load t x, ty, pos, af, g⟩ (St L n tm S own) :=
  st_loadpel hx ht (List.getElem?_eq_some_iff.1 hu).1 hd fun u' hu' => by
    rw [hu] at hu'
    cases hu'
    exact ⟨v, hv, hk⟩
theorem st_loadpr {α : Type} {enc : α → List PV} {l : List α} {t e : TypeId} {x : Operand} {b esz i j : Nat} {ti : TI} (hx : evF tm x = some (.a (.s (.pr L b i j)))) (ho : alook own b = some (.row e esz (l.map enc))) (ht : T t = some ti) (hi : i < l.length)
    (hd : Nat.blt d n = true) (hk : ∀ u, l[i]? = some u → ∃ v, cellsF ti ((enc u).map .pv) j = some v ∧ aops P T ops rest Q (St L n ((d, v) :: tm) S own)) :
    aop1 P T ops rest Q ⟨some d, .load t x, ty, pos, af, g⟩ (St L n tm S own) := by
  simp only [aop1, x1, evF_ok hx]
  refine ⟨ti, ht, ?_⟩
  have : (St L n tm S own).O L b = some (.row e esz (l.map enc)) := by show mkO S L own L b = _; rw [mkO_own]; exact ho
  simp only [this]
  obtain ⟨v, h1, h2⟩ := hk l[i] (List.getElem?_eq_getElem hi)
  exact ⟨enc l[i], by simp [hi], cellsF_ok h1 (K := fun v => (St L n tm S own).put (some d) v (aops P T ops rest Q)) (put_some hd h2)⟩
def aset : List (Nat × AObj) → Nat → AObj → Option (List (Nat × AObj))
  | [], _, _ => none
  | (k, o) :: r, b, o' => match Nat.beq b k with
    | true => some ((k, o') :: r)
    | false => match aset r b o' with
      | some r' => some ((k, o) :: r')
      | none => none
theorem aset_look : ∀ {own own' : List (Nat × AObj)} {b : Nat} {o : AObj}, aset own b o = some own' → ∀ c, alook own' c = if c = b then some o else alook own c
  | [], own', b, o, h, c => by simp [aset] at h
  | (k, q) :: r, own', b, o, h, c => by
    unfold aset at h
    cases hb : Nat.beq b k with
    | true =>
      simp only [hb, Option.some.injEq] at h
      subst h
      have := Nat.eq_of_beq_eq_true hb
      subst this
      unfold alook
      cases hc : Nat.beq c b with
      | true => rw [if_pos (Nat.eq_of_beq_eq_true hc)]
      | false => rw [if_neg (fun e => by subst e; simp at hc)]
    | false =>
      simp only [hb] at h
      split at h
      · rename_i r' hr
        simp only [Option.some.injEq] at h
        subst h
        have ih := aset_look hr c
        unfold alook
        cases hc : Nat.beq c k with
        | true =>
          have := Nat.eq_of_beq_eq_true hc
          subst this
          rw [if_neg (fun e => by subst e; simp at hb)]
        | false => exact ih
      · cases h
theorem alook_cons (k : Nat) (o : AObj) (r : List (Nat × AObj)) (b : Nat) : alook ((k, o) :: r) b = if b = k then some o else alook r b := by
  show (match Nat.beq b k with | true => some o | false => alook r b) = _
  cases h : Nat.beq b k with
  | true => rw [if_pos (Nat.eq_of_beq_eq_true h)]
  | false => rw [if_neg (fun e => by subst e; simp at h)]
theorem mkO_aset {own' : List (Nat × AObj)} {b : Nat} {o : AObj} (h : aset own b o = some own') : upd (mkO S L own) L b (some o) = mkO S L own' := by
  rw [mkO_upd]
  funext l c
  by_cases hl : l = L
  · subst hl
    rw [mkO_own, mkO_own, aset_look h, alook_cons]
  · simp [mkO, hl]
def layF (ti : TI) (cs : List SV) (j : Nat) (v : TV) : Option (List SV) :=
  match cellsOf v with
  | some xs => match Nat.beq xs.length ti.size with
    | true => match Nat.ble (j + xs.length) cs.length with
      | true => forceL (layG cs j xs)
      | false => none
    | false => none
  | none => none
theorem layF_ok {ti : TI} {cs cs' : List SV} {j : Nat} {v : TV} (h : layF ti cs j v = some cs') : ∃ xs, cellsOf v = some xs ∧ xs.length = ti.size ∧ j + xs.length ≤ cs.length ∧ layG cs j xs = cs' := by
  unfold layF at h
  split at h
  · rename_i xs hx
    split at h
    · rename_i h1
      split at h
      · rename_i h2
        rw [forceL_eq] at h
        simp only [Option.some.injEq] at h
        exact ⟨xs, hx, Nat.eq_of_beq_eq_true h1, Nat.le_of_ble_eq_true h2, h⟩
      · cases h
    · cases h
  · cases h
theorem st_store {t e : TypeId} {x y : Operand} {b j : Nat} {cs cs' : List SV} {ti : TI} {v : TV} {own' : List (Nat × AObj)} (hx : evF tm x = some (.a (.s (.pb L b j)))) (ho : alook own b = some (.box e cs)) (ht : T t = some ti)
    (hy : evF tm y = some v) (hv : layF ti cs j v = some cs') (hs : aset own b (.box e cs') = some own') (hk : aops P T ops rest Q (St L n tm S own')) :
    aop1 P T ops rest Q ⟨none, .store t x y, ty, pos, af, g⟩ (St L n tm S own) := by
  simp only [aop1, x1]
  unfold eStore
  rw [evF_ok hx]
  obtain ⟨xs, q1, q2, q3, q4⟩ := layF_ok hv
  refine ⟨ti, ht, ?_⟩
  have : (St L n tm S own).O L b = some (.box e cs) := by show mkO S L own L b = _; rw [mkO_own]; exact ho
  simp only [this]
  refine ⟨xs, by rw [evF_ok hy]; exact q1, q2, q3, .inl rfl, ?_⟩
  rw [q4]
  show ASt.put ⟨L, n, tm, upd (mkO S L own) L b (some (.box e cs'))⟩ none _ _
  rw [mkO_aset hs]
  exact hk
def plainF (v : TV) : Option (List PV) := match cellsOf v with
  | some xs => pvs xs
  | none => none
theorem st_storepr {t e : TypeId} {x y : Operand} {b esz i j : Nat} {es es2 : List (List PV)} {z : List PV} {ps : List PV} {ti : TI} {v : TV} {own' : List (Nat × AObj)} (hx : evF tm x = some (.a (.s (.pr L b i j)))) (ho : alook own b = some (.row e esz es)) (ht : T t = some ti)
    (hy : evF tm y = some v) (hp : plainF v = some ps) (hs : Nat.beq ps.length ti.size = true) (hz : es[i]? = some z) (hle : j + ps.length ≤ z.length) (he : es.set i (layG z j ps) = es2) (hs2 : aset own b (.row e esz es2) = some own')
    (hk : aops P T ops rest Q (St L n tm S own')) : aop1 P T ops rest Q ⟨none, .store t x y, ty, pos, af, g⟩ (St L n tm S own) := by
  simp only [aop1, x1]
  unfold eStore
  rw [evF_ok hx]
  refine ⟨ti, ht, ?_⟩
  unfold plainF at hp
  split at hp
  · rename_i xs hc
    have hf : (St L n tm S own).freezeOp y = St L n tm S own := by
      unfold ASt.freezeOp
      rw [evF_ok hy]
      split
      · rename_i l' b' o' n'
        simp only [cellsOf, Option.some.injEq] at hc
        subst hc
        simp [pvs] at hp
      · rfl
    have : (St L n tm S own).O L b = some (.row e esz es) := by show mkO S L own L b = _; rw [mkO_own]; exact ho
    simp only [hf, this]
    refine ⟨xs, ps, z, by rw [evF_ok hy]; exact hc, hp, Nat.eq_of_beq_eq_true hs, hz, hle, ?_⟩
    rw [he]
    show ASt.put ⟨L, n, tm, upd (mkO S L own) L b (some (.row e esz es2))⟩ none _ _
    rw [mkO_aset hs2]
    exact hk
  · cases hp
theorem st_storeprU {α : Type} {el : α → List PV} {l : List α} {t e : TypeId} {x y : Operand} {b esz i j : Nat} {ps : List PV} {ti : TI} {v : TV} (hx : evF tm x = some (.a (.s (.pr L b i j)))) (ho : alook own b = some (.row e esz (l.map el))) (ht : T t = some ti)
    (hy : evF tm y = some v) (hp : plainF v = some ps) (hs : Nat.beq ps.length ti.size = true) (hi : i < l.length)
    (hk : ∀ u, l[i]? = some u → ∃ x' own', layG (el u) j ps = el x' ∧ Nat.ble (j + ps.length) (el u).length = true ∧ aset own b (.row e esz ((l.set i x').map el)) = some own' ∧ aops P T ops rest Q (St L n tm S own')) :
    aop1 P T ops rest Q ⟨none, .store t x y, ty, pos, af, g⟩ (St L n tm S own) := by
  obtain ⟨x', own', h1, h2, h3, h4⟩ := hk l[i] (List.getElem?_eq_getElem hi)
  refine st_storepr hx ho ht hy hp hs (z := el l[i]) (by simp [hi]) (Nat.le_of_ble_eq_true h2) ?_ h3 h4
  rw [h1, List.map_set]
theorem st_len {α : Type} {enc : α → List PV} {l : List α} {t : TypeId} {x : Operand} {esz : Nat} {ei : TypeId × TI} (hT : TOk P T) (hx : evF tm x = some (row esz (l.map enc))) (ht : sliceT T t = some ei) (hd : Nat.blt d n = true)
    (hk : (l.length : Int) ≤ 9223372036854775807 → aops P T ops rest Q (St L n ((d, int l.length) :: tm) S own)) :
    aop1 P T ops rest Q ⟨some d, .call ⟨.builtin .len, #[x], #[t]⟩, ty, pos, af, g⟩ (St L n tm S own) := by
  simp only [aop1, x1]
  show qLen P t ((St L n tm S own).ev x) (fun v => (St L n tm S own).put (some d) v (aops P T ops rest Q))
  rw [evF_ok hx]
  refine ⟨sliceT_und hT ht, fun hm => ?_⟩
  rw [List.length_map] at hm ⊢
  exact put_some hd (hk (by have : maxLen = 9223372036854775807 := rfl; omega))
theorem st_lennil {t : TypeId} {x : Operand} {ei : TypeId × TI} (hT : TOk P T) (hx : evF tm x = some nilS) (ht : sliceT T t = some ei) (hd : Nat.blt d n = true) (hk : aops P T ops rest Q (St L n ((d, int 0) :: tm) S own)) :
    aop1 P T ops rest Q ⟨some d, .call ⟨.builtin .len, #[x], #[t]⟩, ty, pos, af, g⟩ (St L n tm S own) := by
  simp only [aop1, x1]
  show qLen P t ((St L n tm S own).ev x) (fun v => (St L n tm S own).put (some d) v (aops P T ops rest Q))
  rw [evF_ok hx]
  exact ⟨sliceT_und hT ht, put_some hd hk⟩
theorem st_lenown {t : TypeId} {x : Operand} {l b off len : Nat} {ei : TypeId × TI} (hT : TOk P T) (hx : evF tm x = some (.a (.s (.sl l b off len)))) (ht : sliceT T t = some ei) (hd : Nat.blt d n = true)
    (hk : (len : Int) ≤ 9223372036854775807 → aops P T ops rest Q (St L n ((d, int len) :: tm) S own)) :
    aop1 P T ops rest Q ⟨some d, .call ⟨.builtin .len, #[x], #[t]⟩, ty, pos, af, g⟩ (St L n tm S own) := by
  simp only [aop1, x1]
  show qLen P t ((St L n tm S own).ev x) (fun v => (St L n tm S own).put (some d) v (aops P T ops rest Q))
  rw [evF_ok hx]
  exact ⟨sliceT_und hT ht, fun hm => put_some hd (hk (by have : maxLen = 9223372036854775807 := rfl; omega))⟩
theorem st_idx {α : Type} {enc : α → List PV} {l : List α} {t e : TypeId} {x y : Operand} {esz : Nat} {ei : TI} {k : IntKind} {m : Int} (hx : evF tm x = some (row esz (l.map enc))) (hy : evF tm y = some (lit (.int k m))) (ht : sliceT T t = some (e, ei))
    (hz : Nat.beq ei.size esz = true) (hd : Nat.blt d n = true) (h1 : 0 ≤ m ∧ m < l.length) (hk : aops P T ops rest Q (St L n ((d, .a (.pel esz (l.map enc) m.toNat 0)) :: tm) S own)) :
    aop1 P T ops rest Q ⟨some d, .indexAddr t x y, ty, pos, af, g⟩ (St L n tm S own) := by
  simp only [aop1, x1, evF_ok hx, evF_ok hy]
  obtain ⟨ti, q1, q2, q3⟩ := sliceT_ok ht
  refine ⟨ti, q1, ?_⟩
  rw [q2]
  exact ⟨⟨ei, q3, Nat.eq_of_beq_eq_true hz⟩, h1.1, by simpa using h1.2, put_some hd hk⟩
theorem st_idxown {t e e' : TypeId} {x y : Operand} {b len esz : Nat} {es : List (List PV)} {ei : TI} {k : IntKind} {m : Int} (hx : evF tm x = some (.a (.s (.sl L b 0 len)))) (hy : evF tm y = some (lit (.int k m))) (ht : sliceT T t = some (e, ei))
    (ho : alook own b = some (.row e' esz es)) (hz : Nat.beq ei.size esz = true) (hd : Nat.blt d n = true) (h1 : 0 ≤ m ∧ m < len) (hk : aops P T ops rest Q (St L n ((d, .a (.s (.pr L b m.toNat 0))) :: tm) S own)) :
    aop1 P T ops rest Q ⟨some d, .indexAddr t x y, ty, pos, af, g⟩ (St L n tm S own) := by
  simp only [aop1, x1, evF_ok hx, evF_ok hy]
  obtain ⟨ti, q1, q2, q3⟩ := sliceT_ok ht
  refine ⟨ti, q1, ?_⟩
  rw [q2]
  have h0 : (St L n tm S own).O L b = some (.row e' esz es) := by show mkO S L own L b = _; rw [mkO_own]; exact ho
  refine ⟨⟨ei, q3, e', es, by rw [h0, Nat.eq_of_beq_eq_true hz]⟩, h1.1, h1.2, ?_⟩
  rw [Nat.zero_add]
  exact put_some hd hk
theorem st_make {t e : TypeId} {x y : Operand} {ei : TI} {k1 k2 : IntKind} {l c : Int} {es : List (List PV)} (ho : alook own d = none) (hx : evF tm x = some (lit (.int k1 l))) (hy : evF tm y = some (lit (.int k2 c))) (ht : sliceT T t = some (e, ei))
    (hz : Nat.blt 0 ei.size = true) (hd : Nat.blt d n = true) (h1 : 0 ≤ l ∧ l ≤ c ∧ (ei.bytes : Int) * c ≤ 281474976710656 ∧ c ≤ 9223372036854775807) (he : List.replicate l.toNat (ei.zero.map .lit) = es)
    (hk : aops P T ops rest Q (St L n ((d, .a (.s (.sl L d 0 es.length))) :: tm) S ((d, .row e ei.size es) :: own))) : aop1 P T ops rest Q ⟨some d, .makeSlice t x y, ty, pos, af, g⟩ (St L n tm S own) := by
  simp only [aop1, x1]
  show eMake T (St L n tm S own) d t x y _
  unfold eMake
  rw [drop_St ho, evF_ok hx, evF_ok hy]
  obtain ⟨ti, q1, q2, q3⟩ := sliceT_ok ht
  refine ⟨ti, e, ei, q1, q2, q3, Nat.le_of_ble_eq_true hz, h1.1, h1.2.1, h1.2.2.1, h1.2.2.2, ?_⟩
  rw [he]
  refine .inl ?_
  show ASt.put ⟨L, n, tm, upd (mkO S L own) L d (some (.row e ei.size es))⟩ (some d) _ _
  rw [mkO_upd]
  exact put_some hd hk
def elemsF (sz : Nat) (tm : List (Nat × TV)) : Nat → List (Nat × Operand) → Option (List (List PV))
  | _, [] => some []
  | k, (i, x) :: r => match evF tm x with
    | some v => match plainF v with
      | some ps => match Nat.beq i k with
        | true => match Nat.beq ps.length sz with
          | true => match elemsF sz tm (k + 1) r with
            | some es => some (ps :: es)
            | none => none
          | false => none
        | false => none
      | none => none
    | none => none
theorem elemsF_ok {sz : Nat} : ∀ {r : List (Nat × Operand)} {k : Nat} {es : List (List PV)}, elemsF sz tm k r = some es → elemsOf sz (St L n tm S own).ev k r = some es
  | [], k, es, h => h
  | (i, x) :: r, k, es, h => by
    unfold elemsF at h
    split at h
    · rename_i v hv
      split at h
      · rename_i ps hp
        split at h
        · rename_i h1
          split at h
          · rename_i h2
            split at h
            · rename_i es' he
              simp only [Option.some.injEq] at h
              subst h
              unfold plainF at hp
              split at hp
              · rename_i xs hc
                unfold elemsOf
                rw [evF_ok hv, hc]
                simp only [hp, elemsF_ok he]
                rw [if_pos ⟨Nat.eq_of_beq_eq_true h1, Nat.eq_of_beq_eq_true h2⟩]
              · cases hp
            · cases h
          · cases h
        · cases h
      · cases h
    · cases h
theorem st_buildslice {t e : TypeId} {len : Nat} {parts : Array (Nat × Operand)} {ei : TI} {es es2 : List (List PV)} (ho : alook own d = none) (ht : sliceT T t = some (e, ei)) (hz : Nat.blt 0 ei.size = true) (he : elemsF ei.size tm 0 parts.toList = some es)
    (hl : Nat.beq es.length len = true) (hb : Nat.ble (len * ei.size) 16777216 = true) (he2 : es = es2) (hd : Nat.blt d n = true)
    (hk : aops P T ops rest Q (St L n ((d, .a (.s (.sl L d 0 es2.length))) :: tm) S ((d, .row e ei.size es2) :: own))) : aop1 P T ops rest Q ⟨some d, .buildSlice t len parts, ty, pos, af, g⟩ (St L n tm S own) := by
  subst he2
  simp only [aop1, x1]
  show eBuildSlice T (St L n tm S own) d t len parts _
  unfold eBuildSlice
  rw [drop_St ho]
  obtain ⟨ti, q1, q2, q3⟩ := sliceT_ok ht
  refine ⟨ti, e, ei, es, q1, q2, q3, Nat.le_of_ble_eq_true hz, elemsF_ok he, Nat.eq_of_beq_eq_true hl, Nat.le_of_ble_eq_true hb, ?_⟩
  refine .inl ?_
  show ASt.put ⟨L, n, tm, upd (mkO S L own) L d (some (.row e ei.size es))⟩ (some d) _ _
  rw [mkO_upd]
  exact put_some hd hk
theorem st_buildsliceP {t e : TypeId} {len : Nat} {parts : Array (Nat × Operand)} {ei : TI} {es es2 : List (List PV)} (ho : alook own d = none) (ht : sliceT T t = some (e, ei)) (hz : Nat.blt 0 ei.size = true) (he : elemsF ei.size tm 0 parts.toList = some es)
    (hl : Nat.beq es.length len = true) (hb : Nat.ble (len * ei.size) 16777216 = true) (he2 : es = es2) (hd : Nat.blt d n = true)
    (hk : aops P T ops rest Q (St L n ((d, row ei.size es2) :: tm) S own)) : aop1 P T ops rest Q ⟨some d, .buildSlice t len parts, ty, pos, af, g⟩ (St L n tm S own) := by
  subst he2
  simp only [aop1, x1]
  show eBuildSlice T (St L n tm S own) d t len parts _
  unfold eBuildSlice
  rw [drop_St ho]
  obtain ⟨ti, q1, q2, q3⟩ := sliceT_ok ht
  refine ⟨ti, e, ei, es, q1, q2, q3, Nat.le_of_ble_eq_true hz, elemsF_ok he, Nat.eq_of_beq_eq_true hl, Nat.le_of_ble_eq_true hb, ?_⟩
  exact .inr (put_some hd hk)
end
end Go.Rd
namespace Go.Rd
open Go.RowKit Go.Proofs
def agree (tm : List (Nat × TV)) : List (Nat × TV) → Prop
  | [] => True
  | (k, v) :: r => lk tm k = v ∧ agree tm r
def oagree (own : List (Nat × AObj)) : List (Nat × AObj) → Prop
  | [] => True
  | (k, v) :: r => alook own k = some v ∧ oagree own r
def hasO (own : List (Nat × AObj)) (b : Nat) : Bool := match alook own b with
  | some _ => true
  | none => false
def liveSB (own : List (Nat × AObj)) : SV → Bool
  | .pb _ b _ => hasO own b
  | .pr _ b _ _ => hasO own b
  | .sl _ b _ _ => hasO own b
  | .slc _ b _ _ _ => hasO own b
  | .clo _ caps => caps.all fun p => hasO own p.2
  | _ => true
def liveAB (own : List (Nat × AObj)) : AV → Bool
  | .s x => liveSB own x
  | .agg xs => xs.all (liveSB own)
  | .pel .. => true
def liveTB (own : List (Nat × AObj)) : TV → Bool
  | .undef => true
  | .a x => liveAB own x
  | .tup xs => xs.all (liveAB own)
def liveB (own : List (Nat × AObj)) : List (Nat × TV) → Bool
  | [] => true
  | (_, v) :: r => match liveTB own v with
    | true => liveB own r
    | false => false
def liveOB (own : List (Nat × AObj)) : List (Nat × AObj) → Bool
  | [] => true
  | (_, .box _ cs) :: r => match cs.all (liveSB own) with
    | true => liveOB own r
    | false => false
  | (_, .row ..) :: r => liveOB own r
section
variable {L n : Nat} {tm tm' : List (Nat × TV)} {S : Store} {own own' : List (Nat × AObj)}
theorem lk_cons (k : Nat) (v : TV) (r : List (Nat × TV)) (t : Nat) : lk ((k, v) :: r) t = if t = k then v else lk r t := by
  show (match Nat.beq t k with | true => v | false => lk r t) = _
  cases h : Nat.beq t k with
  | true => rw [if_pos (Nat.eq_of_beq_eq_true h)]
  | false => rw [if_neg (fun e => by subst e; simp at h)]
theorem agree_lk : ∀ {tm' : List (Nat × TV)}, agree tm tm' → ∀ t, lk tm' t = .undef ∨ lk tm' t = lk tm t
  | [], _, t => .inl rfl
  | (k, v) :: r, h, t => by
    rw [lk_cons]
    split
    · rename_i e; subst e; exact .inr h.1.symm
    · exact agree_lk h.2 t
theorem oagree_look : ∀ {own' : List (Nat × AObj)}, oagree own own' → ∀ b o, alook own' b = some o → alook own b = some o
  | [], _, b, o, h => by cases h
  | (k, v) :: r, h, b, o, ho => by
    rw [alook_cons] at ho
    split at ho
    · rename_i e; subst e; rw [← ho]; exact h.1
    · exact oagree_look h.2 b o ho
theorem hasO_ok {b : Nat} (h : hasO own b = true) : (mkO S L own L b).isSome = true := by
  unfold hasO at h
  rw [mkO_own]
  split at h
  · rename_i e; rw [e]; rfl
  · cases h
theorem liveSB_ok {s : SV} (h : liveSB own s = true) : s.liveAt (mkO S L own) L := by
  cases s with
  | pb l b j => intro e; subst e; exact hasO_ok h
  | pr l b i j => intro e; subst e; exact hasO_ok h
  | sl l b off len => intro e; subst e; exact hasO_ok h
  | slc l b off len cap => intro e; subst e; exact hasO_ok h
  | clo f caps => intro p hp e; rw [e]; exact hasO_ok (List.all_eq_true.1 h p hp)
  | undef => trivial
  | pv p => trivial
theorem liveAB_ok {s : AV} (h : liveAB own s = true) : s.liveAt (mkO S L own) L := by
  cases s with
  | s x => exact liveSB_ok h
  | agg xs => exact fun x hx => liveSB_ok (List.all_eq_true.1 h x hx)
  | pel => trivial
theorem liveTB_ok {s : TV} (h : liveTB own s = true) : s.liveAt (mkO S L own) L := by
  cases s with
  | undef => trivial
  | a x => exact liveAB_ok h
  | tup xs => exact fun x hx => liveAB_ok (List.all_eq_true.1 h x hx)
theorem liveB_ok : ∀ {tm : List (Nat × TV)}, liveB own tm = true → ∀ t, (lk tm t).liveAt (mkO S L own) L
  | [], _, t => trivial
  | (k, v) :: r, h, t => by
    unfold liveB at h
    split at h
    · rename_i hv
      unfold lk
      cases hb : Nat.beq t k with
      | true => exact liveTB_ok hv
      | false => exact liveB_ok h t
    · cases h
theorem liveOB_ok : ∀ {o2 : List (Nat × AObj)}, liveOB own o2 = true → ∀ b e cs, alook o2 b = some (.box e cs) → ∀ x ∈ cs, x.liveAt (mkO S L own) L
  | [], _, b, e, cs, ho, x, hx => by cases ho
  | (k, .box e' cs') :: r, h, b, e, cs, ho, x, hx => by
    unfold liveOB at h
    split at h
    · rename_i hv
      rw [alook_cons] at ho
      split at ho
      · simp only [Option.some.injEq, AObj.box.injEq] at ho
        obtain ⟨_, rfl⟩ := ho
        exact liveSB_ok (List.all_eq_true.1 hv x hx)
      · exact liveOB_ok h b e cs ho x hx
    · cases h
  | (k, .row ..) :: r, h, b, e, cs, ho, x, hx => by
    unfold liveOB at h
    rw [alook_cons] at ho
    split at ho
    · simp at ho
    · exact liveOB_ok h b e cs ho x hx
theorem wk_St (h1 : agree tm tm') (h2 : oagree own own') (h3 : liveB own' tm' = true) (h4 : liveOB own' own' = true) : Wk (St L n tm S own) (St L n tm' S own') where
  L := rfl
  n := rfl
  tm := fun t => by rw [St_get, St_get]; exact agree_lk h1 t
  obj := fun l b o ho => by
    by_cases hl : l = L
    · subst hl
      have ho : mkO S l own' l b = some o := ho
      show mkO S l own l b = some o
      rw [mkO_own] at ho ⊢
      exact oagree_look h2 b o ho
    · have ho : mkO S L own' l b = some o := ho
      show mkO S L own l b = some o
      simp only [mkO, if_neg hl] at ho ⊢
      exact ho
  low := fun l b hl => by
    have hl : l < L := hl
    show mkO S L own' l b = mkO S L own l b
    rw [mkO_low _ _ _ hl, mkO_low _ _ _ hl]
  live := fun t => by rw [St_get]; exact liveB_ok h3 t
  box := fun b e cs ho => by
    have ho : mkO S L own' L b = _ := ho
    rw [mkO_own] at ho
    exact liveOB_ok h4 b e cs ho
end
def liveCP (own : List (Nat × AObj)) (L : Nat) : List (Nat × Nat) → Prop
  | [] => True
  | p :: r => (p.1 < L ∨ hasO own p.2 = true) ∧ liveCP own L r
def liveSP (own : List (Nat × AObj)) (L : Nat) : SV → Prop
  | .pb l b _ => l < L ∨ hasO own b = true
  | .pr l b _ _ => l < L ∨ hasO own b = true
  | .sl l b _ _ => l < L ∨ hasO own b = true
  | .slc l b _ _ _ => l < L ∨ hasO own b = true
  | .clo _ caps => liveCP own L caps
  | _ => True
def liveLP (own : List (Nat × AObj)) (L : Nat) : List SV → Prop
  | [] => True
  | x :: r => liveSP own L x ∧ liveLP own L r
def liveAP (own : List (Nat × AObj)) (L : Nat) : AV → Prop
  | .s x => liveSP own L x
  | .agg xs => liveLP own L xs
  | .pel .. => True
def liveAsP (own : List (Nat × AObj)) (L : Nat) : List AV → Prop
  | [] => True
  | x :: r => liveAP own L x ∧ liveAsP own L r
def liveTP (own : List (Nat × AObj)) (L : Nat) : TV → Prop
  | .undef => True
  | .a x => liveAP own L x
  | .tup xs => liveAsP own L xs
def liveP (own : List (Nat × AObj)) (L : Nat) : List (Nat × TV) → Prop
  | [] => True
  | (_, v) :: r => liveTP own L v ∧ liveP own L r
def liveOP (own : List (Nat × AObj)) (L : Nat) : List (Nat × AObj) → Prop
  | [] => True
  | (_, .box _ cs) :: r => liveLP own L cs ∧ liveOP own L r
  | (_, .row ..) :: r => liveOP own L r
section
variable {L n : Nat} {tm tm' : List (Nat × TV)} {S : Store} {own own' : List (Nat × AObj)}
theorem liveCP_ok : ∀ {caps : List (Nat × Nat)}, liveCP own L caps → ∀ p ∈ caps, p.1 = L → (mkO S L own p.1 p.2).isSome = true
  | [], _, p, hp, _ => by cases hp
  | q :: r, h, p, hp, e => by
    rcases List.mem_cons.1 hp with rfl | hp
    · rcases h.1 with h1 | h1
      · omega
      · rw [e]; exact hasO_ok h1
    · exact liveCP_ok h.2 p hp e
theorem liveSP_ok {s : SV} (h : liveSP own L s) : s.liveAt (mkO S L own) L := by
  cases s with
  | pb l b j => intro e; rcases h with h1 | h1; (omega); (subst e; exact hasO_ok h1)
  | pr l b i j => intro e; rcases h with h1 | h1; (omega); (subst e; exact hasO_ok h1)
  | sl l b off len => intro e; rcases h with h1 | h1; (omega); (subst e; exact hasO_ok h1)
  | slc l b off len cap => intro e; rcases h with h1 | h1; (omega); (subst e; exact hasO_ok h1)
  | clo f caps => exact liveCP_ok h
  | undef => trivial
  | pv p => trivial
theorem liveLP_ok : ∀ {xs : List SV}, liveLP own L xs → ∀ x ∈ xs, x.liveAt (mkO S L own) L
  | [], _, x, hx => by cases hx
  | y :: r, h, x, hx => by
    rcases List.mem_cons.1 hx with rfl | hx
    · exact liveSP_ok h.1
    · exact liveLP_ok h.2 x hx
theorem liveAP_ok {s : AV} (h : liveAP own L s) : s.liveAt (mkO S L own) L := by
  cases s with
  | s x => exact liveSP_ok h
  | agg xs => exact liveLP_ok h
  | pel => trivial
theorem liveAsP_ok : ∀ {xs : List AV}, liveAsP own L xs → ∀ x ∈ xs, x.liveAt (mkO S L own) L
  | [], _, x, hx => by cases hx
  | y :: r, h, x, hx => by
    rcases List.mem_cons.1 hx with rfl | hx
    · exact liveAP_ok h.1
    · exact liveAsP_ok h.2 x hx
theorem liveTP_ok {s : TV} (h : liveTP own L s) : s.liveAt (mkO S L own) L := by
  cases s with
  | undef => trivial
  | a x => exact liveAP_ok h
  | tup xs => exact liveAsP_ok h
theorem liveP_ok : ∀ {tm : List (Nat × TV)}, liveP own L tm → ∀ t, (lk tm t).liveAt (mkO S L own) L
  | [], _, t => trivial
  | (k, v) :: r, h, t => by
    rw [lk_cons]
    split
    · exact liveTP_ok h.1
    · exact liveP_ok h.2 t
theorem liveOP_ok : ∀ {o2 : List (Nat × AObj)}, liveOP own L o2 → ∀ b e cs, alook o2 b = some (.box e cs) → ∀ x ∈ cs, x.liveAt (mkO S L own) L
  | [], _, b, e, cs, ho, x, hx => by cases ho
  | (k, .box e' cs') :: r, h, b, e, cs, ho, x, hx => by
    rw [alook_cons] at ho
    split at ho
    · simp only [Option.some.injEq, AObj.box.injEq] at ho
      obtain ⟨_, rfl⟩ := ho
      exact liveLP_ok h.1 x hx
    · exact liveOP_ok h.2 b e cs ho x hx
  | (k, .row ..) :: r, h, b, e, cs, ho, x, hx => by
    rw [alook_cons] at ho
    split at ho
    · simp at ho
    · exact liveOP_ok (o2 := r) h b e cs ho x hx
theorem wk_StP (h1 : agree tm tm') (h2 : oagree own own') (h3 : liveP own' L tm') (h4 : liveOP own' L own') : Wk (St L n tm S own) (St L n tm' S own') where
  L := rfl
  n := rfl
  tm := fun t => by rw [St_get, St_get]; exact agree_lk h1 t
  obj := fun l b o ho => by
    by_cases hl : l = L
    · subst hl
      have ho : mkO S l own' l b = some o := ho
      show mkO S l own l b = some o
      rw [mkO_own] at ho ⊢
      exact oagree_look h2 b o ho
    · have ho : mkO S L own' l b = some o := ho
      show mkO S L own l b = some o
      simp only [mkO, if_neg hl] at ho ⊢
      exact ho
  low := fun l b hl => by
    have hl : l < L := hl
    show mkO S L own' l b = mkO S L own l b
    rw [mkO_low _ _ _ hl, mkO_low _ _ _ hl]
  live := fun t => by rw [St_get]; exact liveP_ok h3 t
  box := fun b e cs ho => by
    have ho : mkO S L own' L b = _ := ho
    rw [mkO_own] at ho
    exact liveOP_ok h4 b e cs ho
end
section
variable {rd : Bool}
variable {P : Program} {T : TypeId → Option TI} {L n : Nat} {tm tm' : List (Nat × TV)} {S : Store} {own own' : List (Nat × AObj)} {Q : Exit → ASt → Prop} {st : ASt}
theorem c_seq {x y : Code} (h : awp P T rd x (kseq (awp P T rd y Q) Q) st) : awp P T rd (.seq x y) Q st := ⟨_, fun _ h => h, h⟩
theorem c_skip (h : Q .normal st) : awp P T rd .skip Q st := h
theorem c_exit {id : Nat} (h : Q (.exit id) st) : awp P T rd (.exit id) Q st := h
theorem c_ret (h : Q .ret st) : awp P T rd .ret Q st := h
theorem c_block {id : Nat} {c : Code} (h : awp P T rd c (kblock id Q) st) : awp P T rd (.block id c) Q st := h
theorem c_region {k : Nat} {l : List Oper} (h : aops P T l l (Q .normal) st) : awp P T rd (.region k l.toArray false) Q st := by
  unfold awp
  rw [if_neg (by simp)]
  simpa using h
def noNan (T : TypeId → Option TI) (o : Oper) : Bool := match o.op with
  | .binOp op t _ _ _ => (match op with
    | .add | .sub | .mul | .quo => (T t).isSome
    | _ => true)
  | _ => true
theorem noNan_no {t : TypeId} {op : BinOp} {X Y : TV} {K : TV → Prop} (h : (match op with | .add | .sub | .mul | .quo => (T t).isSome | _ => true) = true) : ¬ qNan T op t X Y K := by
  intro hk
  unfold qNan at hk
  split at hk
  · obtain ⟨hn, _, hop, _⟩ := hk
    rcases hop with rfl | rfl | rfl | rfl <;> (simp only [hn] at h; cases h)
  · exact hk
theorem x1_quiet {s : ASt} {d : Nat} {o : Oper} {K : TV → ASt → Prop} (h : isQ o = true) (hn : noNan T o = true) : x1 P T s d o.op K = xq P T s o.op fun v => K v s := by
  obtain ⟨dst, op, ty, pos, af, g⟩ := o
  cases op <;> first | rfl | (simp only [isQ] at h; cases h; done) | skip
  case binOp op t x y t2 => exact propext ⟨fun h => h.resolve_right (noNan_no hn), .inl⟩
  rename_i c
  obtain ⟨cal, cas, cts⟩ := c
  cases cal with
  | builtin b => cases b <;> first | rfl | (simp only [isQ] at h; cases h; done)
  | _ => simp only [isQ] at h; cases h; done
theorem q_one {ops rest : List Oper} {Q : ASt → Prop} {st : ASt} {o : Oper} (hq : isQ o = true) (hn : noNan T o = true) (h : aops P T ops [o] (qops P T ops rest Q) st) : qops P T ops (o :: rest) Q st := by
  unfold qops
  unfold aops at h
  have e : (fun st : ASt => x1 P T st (o.dst.getD st.n) o.op fun v st' => st'.put o.dst v (aops P T ops [] (qops P T ops rest Q))) = fun st : ASt => qstep P T o st fun v => st.put o.dst v (qops P T ops rest Q) := by
    funext s
    rw [x1_quiet hq hn]
    unfold qstep
    rw [hq]
    rfl
  rw [e] at h
  exact h
theorem q_nil {ops : List Oper} {Q : ASt → Prop} {st : ASt} (h : Q st) : qops P T ops [] Q st := h
theorem q_qstep {st : ASt} {o : Oper} {K : TV → Prop} (hn : isQ o = false) (h : acallQ P st o.op K) : qstep P T o st K := by
  unfold qstep
  rw [hn]
  exact h
theorem q_call {ops rest : List Oper} {Q : ASt → Prop} {dst : Option Tmp} {op : Op} {ty : TypeId} {pos : String} {af : Array Edge} {st : ASt} (hn : isQ ⟨dst, op, ty, pos, af, none⟩ = false) (h : acallQ P st op (fun v => st.put dst v (qops P T ops rest Q))) : qops P T ops (⟨dst, op, ty, pos, af, none⟩ :: rest) Q st := q_qstep hn h
theorem wantK_run {ops : List Oper} {dst : Option Tmp} {op : Op} {ty : TypeId} {pos : String} {af : Array Edge} {j : Nat} {want : Bool} {t : Nat} {y z : ASt → Prop} (hg : gvF tm ops j = some (t, want)) (ht : Nat.blt t n = true) (h : y (St L n ((t, bool want) :: tm) S own)) :
    wantK ops (St L n tm S own) ⟨dst, op, ty, pos, af, some (j, want)⟩ y z := by
  obtain ⟨q1, q2⟩ := gvF_ok (L := L) (n := n) (S := S) (own := own) hg
  unfold wantK
  simp only [q1, q2]
  refine ⟨Nat.le_of_ble_eq_true ht, fun hb => ?_, fun hb => ?_⟩
  · cases want with
    | true => exact h
    | false => cases hb
  · cases want with
    | true => cases hb
    | false => exact h
theorem wantK_skip {ops : List Oper} {dst : Option Tmp} {op : Op} {ty : TypeId} {pos : String} {af : Array Edge} {j : Nat} {want : Bool} {t : Nat} {y z : ASt → Prop} (hg : gvF tm ops j = some (t, !want)) (ht : Nat.blt t n = true) (h : z (St L n ((t, bool !want) :: tm) S own)) :
    wantK ops (St L n tm S own) ⟨dst, op, ty, pos, af, some (j, want)⟩ y z := by
  obtain ⟨q1, q2⟩ := gvF_ok (L := L) (n := n) (S := S) (own := own) hg
  unfold wantK
  simp only [q1, q2]
  refine ⟨Nat.le_of_ble_eq_true ht, fun hb => ?_, fun hb => ?_⟩
  · cases want with
    | true => cases hb
    | false => exact h
  · cases want with
    | true => exact h
    | false => cases hb
theorem q_callR {ops rest : List Oper} {Q : ASt → Prop} {dst : Option Tmp} {op : Op} {ty : TypeId} {pos : String} {af : Array Edge} {j : Nat} {want : Bool} {t : Nat} (hn : isQ ⟨dst, op, ty, pos, af, some (j, want)⟩ = false) (hg : gvF tm ops j = some (t, want)) (ht : Nat.blt t n = true)
    (h : acallQ P (St L n ((t, bool want) :: tm) S own) op (fun v => (St L n ((t, bool want) :: tm) S own).put dst v (qops P T ops rest Q))) : qops P T ops (⟨dst, op, ty, pos, af, some (j, want)⟩ :: rest) Q (St L n tm S own) :=
  wantK_run hg ht (q_qstep hn h)
theorem q_callS {ops rest : List Oper} {Q : ASt → Prop} {d : Tmp} {op : Op} {ty : TypeId} {pos : String} {af : Array Edge} {j : Nat} {want : Bool} {t : Nat} (hg : gvF tm ops j = some (t, !want)) (ht : Nat.blt t n = true) (hd : Nat.blt d n = true)
    (h : qops P T ops rest Q (St L n ((d, .tup []) :: (t, bool !want) :: tm) S own)) : qops P T ops (⟨some d, op, ty, pos, af, some (j, want)⟩ :: rest) Q (St L n tm S own) :=
  wantK_skip hg ht ⟨Nat.le_of_ble_eq_true hd, h⟩
theorem qops_eq {ops : List Oper} {Q : ASt → Prop} : ∀ (l : List Oper), l.all isQ = true → l.all (noNan T) = true → aops P T ops l Q = qops P T ops l Q
  | [], _, _ => rfl
  | o :: r, hq, hn => by
    simp only [List.all_cons, Bool.and_eq_true] at hq hn
    funext st
    show wantK ops st o _ _ = wantK ops st o _ _
    rw [qops_eq r hq.2 hn.2]
    congr 1
    funext s
    rw [x1_quiet hq.1 hn.1]
    unfold qstep
    rw [hq.1]
theorem c_regionD {k : Nat} {l : List Oper} (hB : Region.lexB .any l.toArray = true) (hq : l.all isQ = true) (hn : l.all (noNan T) = true) (h : aops P T l l (Q .normal) st) : awp P T false (.region k l.toArray true) Q st := by
  unfold awp
  rw [if_pos rfl]
  exact .inl ⟨rfl, hB, by simpa using (qops_eq (P := P) (T := T) (ops := l) (Q := Q .normal) l hq hn) ▸ h⟩
theorem c_regionQ {k : Nat} {l : List Oper} (hB : Region.lexB .any l.toArray = true) (h : qops P T l l (Q .normal) st) : awp P T false (.region k l.toArray true) Q st := by
  unfold awp
  rw [if_pos rfl]
  exact .inl ⟨rfl, hB, by simpa using h⟩
theorem c_condT {c : Operand} {x y : Code} (hc : evF tm c = some (bool true)) (h : awp P T rd x Q (St L n tm S own)) : awp P T rd (.cond c x y) Q (St L n tm S own) := by
  show kcond ((St L n tm S own).ev c) _ _
  rw [evF_ok hc]
  exact ⟨fun _ => h, fun e => by cases e⟩
theorem c_condF {c : Operand} {x y : Code} (hc : evF tm c = some (bool false)) (h : awp P T rd y Q (St L n tm S own)) : awp P T rd (.cond c x y) Q (St L n tm S own) := by
  show kcond ((St L n tm S own).ev c) _ _
  rw [evF_ok hc]
  exact ⟨(fun e => by cases e), fun _ => h⟩
theorem c_cond {c : Operand} {x y : Code} {b : Bool} {p : Prop} (hc : evF tm c = some (bool b)) (hb : Bp b p) (h1 : p → awp P T rd x Q (St L n tm S own)) (h2 : ¬ p → awp P T rd y Q (St L n tm S own)) :
    awp P T rd (.cond c x y) Q (St L n tm S own) := by
  show kcond ((St L n tm S own).ev c) _ _
  rw [evF_ok hc]
  exact ⟨fun e => h1 (hb.1 e), fun e => h2 fun hp => by rw [hb.2 hp] at e; cases e⟩
def kround {β : Type} (I : β → Prop) (m : β → Nat) (tmI : β → List (Nat × TV)) (ownI : β → List (Nat × AObj)) (L n : Nat) (S : Store) (b : β) (Q : Exit → ASt → Prop) : Exit → ASt → Prop :=
  kseq (fun s' => ∃ n', n' < m b ∧ ∃ b', I b' ∧ m b' = n' ∧ s' = St L n (tmI b') S (ownI b')) Q
theorem c_loop {β : Type} (I : β → Prop) (m : β → Nat) (tmI : β → List (Nat × TV)) (ownI : β → List (Nat × AObj)) {c : Code} (b0 : β) (h0 : I b0)
    (h1 : agree tm (tmI b0)) (h2 : oagree own (ownI b0)) (h3 : liveB (ownI b0) (tmI b0) = true) (h4 : liveOB (ownI b0) (ownI b0) = true)
    (hr : ∀ b, I b → awp P T rd c (kround I m tmI ownI L n S b Q) (St L n (tmI b) S (ownI b))) :
    awp P T rd (.loop c) Q (St L n tm S own) := by
  refine ⟨fun k s => ∃ b, I b ∧ m b = k ∧ s = St L n (tmI b) S (ownI b), m b0, _, .inr (wk_St h1 h2 h3 h4), ⟨b0, h0, rfl, rfl⟩, ?_⟩
  rintro k s ⟨b, hb, rfl, rfl⟩
  exact hr b hb
theorem k_back {β : Type} {I : β → Prop} {m : β → Nat} {tmI : β → List (Nat × TV)} {ownI : β → List (Nat × AObj)} {b : β} (b' : β) (hi : I b') (hm : m b' < m b)
    (h1 : agree tm (tmI b')) (h2 : oagree own (ownI b')) (h3 : liveB (ownI b') (tmI b') = true) (h4 : liveOB (ownI b') (ownI b') = true) :
    kround I m tmI ownI L n S b Q .normal (St L n tm S own) :=
  ⟨_, .inr (wk_St h1 h2 h3 h4), _, hm, b', hi, rfl, rfl⟩
theorem c_loopP {β : Type} (I : β → Prop) (m : β → Nat) (tmI : β → List (Nat × TV)) (ownI : β → List (Nat × AObj)) {c : Code} (b0 : β) (h0 : I b0)
    (h1 : agree tm (tmI b0)) (h2 : oagree own (ownI b0)) (h3 : liveP (ownI b0) L (tmI b0)) (h4 : liveOP (ownI b0) L (ownI b0))
    (hr : ∀ b, I b → awp P T rd c (kround I m tmI ownI L n S b Q) (St L n (tmI b) S (ownI b))) :
    awp P T rd (.loop c) Q (St L n tm S own) := by
  refine ⟨fun k s => ∃ b, I b ∧ m b = k ∧ s = St L n (tmI b) S (ownI b), m b0, _, .inr (wk_StP h1 h2 h3 h4), ⟨b0, h0, rfl, rfl⟩, ?_⟩
  rintro k s ⟨b, hb, rfl, rfl⟩
  exact hr b hb
theorem k_backP {β : Type} {I : β → Prop} {m : β → Nat} {tmI : β → List (Nat × TV)} {ownI : β → List (Nat × AObj)} {b : β} (b' : β) (hi : I b') (hm : m b' < m b)
    (h1 : agree tm (tmI b')) (h2 : oagree own (ownI b')) (h3 : liveP (ownI b') L (tmI b')) (h4 : liveOP (ownI b') L (ownI b')) :
    kround I m tmI ownI L n S b Q .normal (St L n tm S own) :=
  ⟨_, .inr (wk_StP h1 h2 h3 h4), _, hm, b', hi, rfl, rfl⟩
theorem kr_ret {β : Type} {I : β → Prop} {m : β → Nat} {tmI : β → List (Nat × TV)} {ownI : β → List (Nat × AObj)} {b : β} {L' n' : Nat} {S' : Store} (h : Q .ret st) : kround I m tmI ownI L' n' S' b Q .ret st := h
theorem kr_exit {β : Type} {I : β → Prop} {m : β → Nat} {tmI : β → List (Nat × TV)} {ownI : β → List (Nat × AObj)} {b : β} {L' n' : Nat} {S' : Store} {id : Nat} (h : Q (.exit id) st) : kround I m tmI ownI L' n' S' b Q (.exit id) st := h
def kloop (K : ASt → Prop) (Q : Exit → ASt → Prop) : Exit → ASt → Prop := kseq K Q
theorem kl_exit {K : ASt → Prop} {id : Nat} (h : Q (.exit id) st) : kloop K Q (.exit id) st := h
theorem c_loop0 {c : Code} (h : awp P T rd c (kloop (fun s' => ∃ n', n' < 0 ∧ n' = 0 ∧ s' = st) Q) st) : awp P T rd (.loop c) Q st := by
  refine ⟨fun k s => k = 0 ∧ s = st, 0, st, .inl rfl, ⟨rfl, rfl⟩, ?_⟩
  rintro k s ⟨rfl, rfl⟩
  exact h
theorem k_normal {K : ASt → Prop} (h : K st) : kseq K Q .normal st := ⟨st, .inl rfl, h⟩
theorem k_ret {K : ASt → Prop} (h : Q .ret st) : kseq K Q .ret st := h
theorem k_exit {K : ASt → Prop} {id : Nat} (h : Q (.exit id) st) : kseq K Q (.exit id) st := h
theorem kb_normal {id : Nat} (h : Q .normal st) : kblock id Q .normal st := h
theorem kb_ret {id : Nat} (h : Q .ret st) : kblock id Q .ret st := h
theorem kb_hit {id : Nat} (h : Q .normal st) : kblock id Q (.exit id) st := by show if _ then _ else _; rw [if_pos rfl]; exact h
end
end Go.Rd
namespace Go.Rd
open Go.RowKit Go.Proofs
def capsB (own : List (Nat × AObj)) : List Nat → Option (List (List PV))
  | [] => some []
  | b :: r => match alook own b with
    | some (.box _ cs) => match pvsOf cs with
      | some ps => match capsB own r with
        | some qs => some (ps :: qs)
        | none => none
      | none => none
    | _ => none
theorem capsB_ok {own : List (Nat × AObj)} {L : Nat} {S : Store} : ∀ {bs : List Nat} {css : List (List PV)}, capsB own bs = some css → capsPV (mkO S L own) L (bs.map fun b => (L, b)) = some css
  | [], css, h => h
  | b :: r, css, h => by
    unfold capsB at h
    rw [List.map_cons]
    unfold capsPV
    rw [if_pos rfl, mkO_own]
    split at h
    · rename_i e cs ho
      rw [ho]
      simp only
      split at h
      · rename_i ps hps
        rw [hps]
        simp only
        split at h
        · rename_i qs hqs
          rw [capsB_ok hqs]
          exact h
        · cases h
      · cases h
    · cases h
inductive Fz (own : List (Nat × AObj)) (L : Nat) : SV → SV → Prop
  | pv (p : PV) : Fz own L (.pv p) (.pv p)
  | fn (f : FuncId) : Fz own L (.clo f []) (.clo f [])
  | sl {b len : Nat} {e : TypeId} {esz : Nat} {es : List (List PV)} (h : alook own b = some (.row e esz es)) (hl : len = es.length) : Fz own L (.sl L b 0 len) (.pv (.row esz es))
  | slT {b len : Nat} {e : TypeId} {esz : Nat} {es es2 : List (List PV)} (h : alook own b = some (.row e esz es)) (hl : es.take len = es2) : Fz own L (.sl L b 0 len) (.pv (.row esz es2))
  | slL {l b off len : Nat} (h : l < L) : Fz own L (.sl l b off len) (.sl l b off len)
  | slcL {l b off len cap : Nat} (h : l < L) : Fz own L (.slc l b off len cap) (.slc l b off len cap)
  | pbL {l b j : Nat} (h : l < L) : Fz own L (.pb l b j) (.pb l b j)
  | cloB {f : FuncId} {caps : List (Nat × Nat)} {css : List (List PV)} (b : Nat) (bs : List Nat) (he : caps = (b :: bs).map fun b => (L, b)) (h : capsB own (b :: bs) = some css) : Fz own L (.clo f caps) (.pv (.clo f css))
inductive FzL (own : List (Nat × AObj)) (L : Nat) : List SV → List SV → Prop
  | nil : FzL own L [] []
  | cons {x y : SV} {xs ys : List SV} (h : Fz own L x y) (hr : FzL own L xs ys) : FzL own L (x :: xs) (y :: ys)
inductive FzA (own : List (Nat × AObj)) (L : Nat) : AV → AV → Prop
  | s {x y : SV} (h : Fz own L x y) : FzA own L (.s x) (.s y)
  | agg {xs ys : List SV} (h : FzL own L xs ys) : FzA own L (.agg xs) (.agg ys)
inductive FzAs (own : List (Nat × AObj)) (L : Nat) : List AV → List AV → Prop
  | nil : FzAs own L [] []
  | cons {x y : AV} {xs ys : List AV} (h : FzA own L x y) (hr : FzAs own L xs ys) : FzAs own L (x :: xs) (y :: ys)
inductive ResL (T : TypeId → Option TI) (tm : List (Nat × TV)) (own : List (Nat × AObj)) (L : Nat) : List ResultVar → List AV → Prop
  | nil : ResL T tm own L [] []
  | tmp {t : Nat} {x : AV} {rs : List ResultVar} {xs : List AV} (h : evF tm (.tmp t) = some (.a x)) (hr : ResL T tm own L rs xs) : ResL T tm own L (.tmp t :: rs) (x :: xs)
  | cell {ad : Nat} {t e : TypeId} {b j : Nat} {cs : List SV} {ti : TI} {x : AV} {rs : List ResultVar} {xs : List AV} (h : evF tm (.tmp ad) = some (.a (.s (.pb L b j)))) (ho : alook own b = some (.box e cs)) (ht : T t = some ti)
      (hv : cellsF ti cs j = some (.a x)) (hr : ResL T tm own L rs xs) : ResL T tm own L (.cell ad t :: rs) (x :: xs)
section
variable {P : Program} {T : TypeId → Option TI} {L n : Nat} {tm tm' : List (Nat × TV)} {S : Store} {own own' : List (Nat × AObj)}
theorem Fz.ok {x y : SV} (h : Fz own L x y) : x.fz (mkO S L own) L = y := by
  cases h with
  | pv p => rfl
  | fn f => rfl
  | sl h hl =>
    subst hl
    simp only [SV.fz, mkO_own, h, if_true]
    simp
  | slT h hl =>
    subst hl
    simp only [SV.fz, mkO_own, h, if_true]
    simp
  | slL h => simp only [SV.fz]; rw [if_neg (by omega)]
  | slcL h => simp only [SV.fz]; rw [if_neg (by omega)]
  | pbL h => simp only [SV.fz]; rw [if_neg (by omega)]
  | cloB b bs he h =>
    subst he
    simp only [SV.fz]
    rw [if_pos (by simp), capsB_ok h]
theorem FzL.ok {xs ys : List SV} (h : FzL own L xs ys) : xs.map (·.fz (mkO S L own) L) = ys := by
  induction h with
  | nil => rfl
  | cons h _ ih => rw [List.map_cons, h.ok, ih]
theorem FzA.ok {x y : AV} (h : FzA own L x y) : x.fz (mkO S L own) L = y := by
  cases h with
  | s h => simp only [AV.fz, h.ok]
  | agg h => simp only [AV.fz, h.ok]
theorem FzAs.ok {xs ys : List AV} (h : FzAs own L xs ys) : xs.map (·.fz (mkO S L own) L) = ys := by
  induction h with
  | nil => rfl
  | cons h _ ih => rw [List.map_cons, h.ok, ih]
theorem ResL.ok {rs : List ResultVar} {xs : List AV} (h : ResL T tm own L rs xs) {K : List TV → Prop} (hk : K (xs.map .a)) : resK T (St L n tm S own) rs K := by
  induction h generalizing K with
  | nil => exact hk
  | tmp h _ ih =>
    unfold resK
    refine ih ?_
    rw [show (St L n tm S own).get _ = _ from evF_ok (L := L) (n := n) (S := S) (own := own) h]
    exact hk
  | cell h ho ht hv _ ih =>
    unfold resK
    rw [show (St L n tm S own).get _ = _ from evF_ok (L := L) (n := n) (S := S) (own := own) h]
    refine ⟨_, ht, ?_⟩
    have : (St L n tm S own).O L _ = some (.box _ _) := (mkO_own S L own _).trans ho
    simp only [this]
    exact cellsF_ok hv (ih hk)
theorem argsOf_map : ∀ (xs : List AV), argsOf (xs.map TV.a) = some xs
  | [] => rfl
  | x :: r => by simp [argsOf, argsOf_map r]
theorem joinR_one (x : AV) : joinR [TV.a x] = some (.a x) := rfl
theorem joinR_more {xs : List AV} (h : Nat.beq xs.length 1 = false) : joinR (xs.map TV.a) = some (.tup xs) := by
  unfold joinR
  split
  · rename_i v hv
    exfalso
    have : xs.length = 1 := by rw [← List.length_map (f := TV.a), hv]; rfl
    rw [this] at h; cases h
  · rw [argsOf_map]; rfl
def isEnd : Exit → Bool
  | .normal => true
  | .ret => true
  | _ => false
theorem retQ_end {X : ASt → TV → Prop} {rs : List ResultVar} {e : Exit} {st : ASt} (he : isEnd e = true) (h : resK T st rs fun vs => ∃ v, joinR vs = some v ∧ X st v) : retQ T rs X e st := by
  cases e <;> first | exact h | cases he
theorem r_one {R : RV → Store → Prop} {rs : List ResultVar} {e : Exit} {x y : AV} (he : isEnd e = true) (h : ResL T tm own L rs [x]) (hf : FzA own L x y) (hS : Sup S L) (hR : R (.val (.a y)) S) :
    retQ T rs (exitVal R) e (St L n tm S own) := by
  refine retQ_end he (h.ok ⟨_, joinR_one x, ?_⟩)
  show R (.val (.a (x.fz (mkO S L own) L))) (cut (mkO S L own) L)
  rw [hf.ok, cut_mkO hS]
  exact hR
theorem r_tup {R : RV → Store → Prop} {rs : List ResultVar} {e : Exit} {xs ys : List AV} (he : isEnd e = true) (h : ResL T tm own L rs xs) (hn : Nat.beq xs.length 1 = false) (hf : FzAs own L xs ys) (hS : Sup S L) (hR : R (.val (.tup ys)) S) :
    retQ T rs (exitVal R) e (St L n tm S own) := by
  refine retQ_end he (h.ok ⟨_, joinR_more hn, ?_⟩)
  show R (.val (.tup (xs.map (·.fz (mkO S L own) L)))) (cut (mkO S L own) L)
  rw [hf.ok, cut_mkO hS]
  exact hR
theorem r_own {R : RV → Store → Prop} {rs : List ResultVar} {ex : Exit} {b len : Nat} {e : TypeId} {esz : Nat} {es : List (List PV)} (he : isEnd ex = true) (h : ResL T tm own L rs [.s (.sl L b 0 len)]) (ho : alook own b = some (.row e esz es)) (hl : len = es.length)
    (hS : Sup S L) (hR : R (.own e esz es) S) : retQ T rs (exitOwn R) ex (St L n tm S own) := by
  refine retQ_end he (h.ok ⟨_, joinR_one _, ?_⟩)
  exact ⟨rfl, rfl, e, esz, es, (mkO_own S L own b).trans ho, hl, by show R _ (cut (mkO S L own) L); rw [cut_mkO hS]; exact hR⟩
theorem fn_St {X : (RV → Store → Prop) → ASt → TV → Prop} (hX : Hands X) (hT : TOk P T) (hm : P.follows .mixedOrders = true) {f : FuncId} {fn : Func} {c : Code} {rs : List ResultVar} (hf : P.funcs[f]? = some fn) (hb : fn.body = some c)
    (hname : (fn.name == "runtime.NumGoroutine") = false) (hrs : fn.results.toList = rs) (hn : fn.ntmps = n) {args : List AV} (ha : Nat.ble args.length n = true) (hL : 0 < L) {R : RV → Store → Prop}
    (h : Sup S L → awp P T false c (retQ T rs (X R)) (St L n (tmOf 0 args) S [])) : AC P L f args S R := by
  subst hn; subst hrs
  refine fn_AC hX hT hm hf hb hname hL (Nat.le_of_ble_eq_true ha) fun hS => ?_
  have := h hS
  unfold St at this
  rw [mkO_nil hS] at this
  exact this
def noSlS : SV → Bool
  | .sl .. => false
  | _ => true
def noSlA : AV → Bool
  | .s x => noSlS x
  | .agg xs => xs.all noSlS
  | .pel .. => true
def argsF (tm : List (Nat × TV)) : List Operand → Option (List AV)
  | [] => some []
  | x :: r => match evF tm x with
    | some (.a v) => match noSlA v with
      | true => match argsF tm r with
        | some vs => some (v :: vs)
        | none => none
      | false => none
    | _ => none
theorem freezeL_id {st : ASt} : ∀ (xs : List SV), xs.all noSlS = true → st.freezeL xs = st
  | [], _ => rfl
  | x :: r, h => by
    simp only [List.all_cons, Bool.and_eq_true] at h
    cases x with
    | sl => simp [noSlS] at h
    | _ => exact freezeL_id r h.2
theorem argsF_ok : ∀ (xs : List Operand) {vs : List AV}, argsF tm xs = some vs → (St L n tm S own).freezeA xs = St L n tm S own ∧ argsOf (xs.map (St L n tm S own).ev) = some vs
  | [], vs, h => by simp only [argsF, Option.some.injEq] at h; subst h; exact ⟨rfl, rfl⟩
  | x :: r, vs, h => by
    unfold argsF at h
    split at h
    · rename_i v hv
      split at h
      · rename_i hn
        split at h
        · rename_i vs' hr
          simp only [Option.some.injEq] at h
          subst h
          obtain ⟨h1, h2⟩ := argsF_ok r hr
          refine ⟨?_, ?_⟩
          · unfold ASt.freezeA
            rw [evF_ok hv]
            cases v with
            | s y => simp only [cellsOf]; rw [freezeL_id [y] (by simpa [noSlA] using hn)]; exact h1
            | agg ys => simp only [cellsOf]; rw [freezeL_id ys (by simpa [noSlA] using hn)]; exact h1
            | pel => exact h1
          · rw [List.map_cons, evF_ok hv]
            simp only [argsOf, h2, Option.map_some]
        · cases h
      · cases h
    · cases h
def ACv (P : Program) (f : FuncId) (args : List AV) (V : TV → Prop) : Prop := ∀ (L : Nat) (S : Store), 0 < L → AC P L f args S fun r S' => S' = S ∧ ∃ v, r = .val v ∧ V v
def ACo (P : Program) (f : FuncId) (args : List AV) (e : TypeId) (esz : Nat) (V : List (List PV) → Prop) : Prop := ∀ (L : Nat) (S : Store), 0 < L → AC P L f args S fun r S' => S' = S ∧ ∃ es, r = .own e esz es ∧ V es
variable {ops rest : List Oper} {Q : ASt → Prop} {d : Tmp} {ty : TypeId} {pos : String} {af : Array Edge} {g : Option (Nat × Bool)}
theorem st_call {fop : Operand} {xs : List Operand} {ts : Array TypeId} {f : FuncId} {caps : List (Nat × Nat)} {avs : List AV} {R : RV → Store → Prop} (ho : alook own d = none) (hf : evF tm fop = some (.a (.s (.clo f caps)))) (hx : argsF tm xs = some avs)
    (hd : Nat.blt d n = true) (hA : AC P (L + 1) f (avs ++ caps.map fun p => .s (.pb p.1 p.2 0)) (mkO S L own) R)
    (hk : ∀ r S', R r S' → match r with
      | .val tv => aops P T ops rest Q ⟨L, n, (d, tv) :: tm, S'⟩
      | .own e esz es => S' L d = none ∧ aops P T ops rest Q ⟨L, n, (d, .a (.s (.sl L d 0 es.length))) :: tm, upd S' L d (some (.row e esz es))⟩
      | .ownT e esz es rs => S' L d = none ∧ aops P T ops rest Q ⟨L, n, (d, .tup (.s (.sl L d 0 es.length) :: rs.map fun p => .s (.pv p))) :: tm, upd S' L d (some (.row e esz es))⟩) :
    aop1 P T ops rest Q ⟨some d, .call ⟨.value fop, xs.toArray, ts⟩, ty, pos, af, g⟩ (St L n tm S own) := by
  simp only [aop1, x1, Option.getD_some]
  refine .inl (.inl ?_)
  unfold acallAt
  rw [drop_St ho]
  obtain ⟨h1, h2⟩ := argsF_ok (L := L) (n := n) (S := S) (own := own) xs hx
  rw [h1, evF_ok hf]
  refine ⟨avs, R, h2, hA, fun r S' hr => ?_⟩
  have := hk r S' hr
  cases r with
  | val tv => exact .inl ⟨Nat.le_of_ble_eq_true hd, this⟩
  | own e esz es => exact ⟨this.1, .inl ⟨Nat.le_of_ble_eq_true hd, this.2⟩⟩
  | ownT e esz es rs => exact ⟨this.1, .inl ⟨Nat.le_of_ble_eq_true hd, this.2⟩⟩
theorem st_callv {fop : Operand} {xs : List Operand} {ts : Array TypeId} {f : FuncId} {avs : List AV} {V : TV → Prop} (ho : alook own d = none) (hf : evF tm fop = some (.a (.s (.clo f [])))) (hx : argsF tm xs = some avs)
    (hd : Nat.blt d n = true) (hA : ACv P f avs V) (hk : ∀ v, V v → aops P T ops rest Q (St L n ((d, v) :: tm) S own)) :
    aop1 P T ops rest Q ⟨some d, .call ⟨.value fop, xs.toArray, ts⟩, ty, pos, af, g⟩ (St L n tm S own) := by
  refine st_call ho hf hx hd (by simpa using hA (L + 1) (mkO S L own) (Nat.succ_pos _)) ?_
  rintro r S' ⟨rfl, v, rfl, hv⟩
  exact hk v hv
theorem st_callo {fop : Operand} {xs : List Operand} {ts : Array TypeId} {f : FuncId} {avs : List AV} {e : TypeId} {esz : Nat} {V : List (List PV) → Prop} (ho : alook own d = none) (hf : evF tm fop = some (.a (.s (.clo f [])))) (hx : argsF tm xs = some avs)
    (hd : Nat.blt d n = true) (hA : ACo P f avs e esz V) (hk : ∀ es, V es → aops P T ops rest Q (St L n ((d, .a (.s (.sl L d 0 es.length))) :: tm) S ((d, .row e esz es) :: own))) :
    aop1 P T ops rest Q ⟨some d, .call ⟨.value fop, xs.toArray, ts⟩, ty, pos, af, g⟩ (St L n tm S own) := by
  refine st_call ho hf hx hd (by simpa using hA (L + 1) (mkO S L own) (Nat.succ_pos _)) ?_
  rintro r S' ⟨rfl, es, rfl, hv⟩
  refine ⟨by rw [mkO_own]; exact ho, ?_⟩
  rw [mkO_upd]
  exact hk es hv
def mentS (b : Nat) : SV → Bool
  | .pb _ c _ => Nat.beq c b
  | .pr _ c _ _ => Nat.beq c b
  | .sl _ c _ _ => Nat.beq c b
  | .slc _ c _ _ _ => Nat.beq c b
  | .clo _ caps => caps.any fun p => Nat.beq p.2 b
  | _ => false
def mentA (b : Nat) : AV → Bool
  | .s x => mentS b x
  | .agg xs => xs.any (mentS b)
  | .pel .. => false
def mentT (b : Nat) : TV → Bool
  | .undef => false
  | .a x => mentA b x
  | .tup xs => xs.any (mentA b)
def filtF (b : Nat) : List (Nat × TV) → Option (List (Nat × TV))
  | [] => some []
  | (k, v) :: r => match filtF b r with
    | some r' => match mentT b v with
      | true => some ((k, .undef) :: r')
      | false => some ((k, v) :: r')
    | none => none
def mentO (b : Nat) : List (Nat × AObj) → Bool
  | [] => false
  | (_, .box _ cs) :: r => match cs.any (mentS b) with
    | true => true
    | false => mentO b r
  | (_, .row ..) :: r => mentO b r
theorem mentS_ok {L b : Nat} {g : Nat → Nat → SV} {s : SV} (h : mentS b s = false) : s.sub L b g = s := by
  have ne : ∀ c, Nat.beq c b = false → ¬ c = b := fun c hc e => by subst e; simp at hc
  cases s with
  | pb l c j => simp only [SV.sub]; rw [if_neg (fun e => ne c h e.2)]
  | pr l c i j => simp only [SV.sub]; rw [if_neg (fun e => ne c h e.2)]
  | sl l c off len => simp only [SV.sub]; rw [if_neg (fun e => ne c h e.2)]
  | slc l c off len cap => simp only [SV.sub]; rw [if_neg (fun e => ne c h e.2)]
  | clo f caps =>
    simp only [SV.sub]
    rw [if_neg]
    intro hm
    simp only [mentS] at h
    have := List.any_eq_false.1 h (L, b) hm
    simp at this
  | _ => rfl
theorem map_sub {L b : Nat} {g : Nat → Nat → SV} : ∀ {xs : List SV}, xs.any (mentS b) = false → xs.map (·.sub L b g) = xs
  | [], _ => rfl
  | x :: r, h => by
    simp only [List.any_cons, Bool.or_eq_false_iff] at h
    rw [List.map_cons, mentS_ok h.1, map_sub h.2]
theorem mentA_ok {L b : Nat} {g : Nat → Nat → SV} {s : AV} (h : mentA b s = false) : s.sub L b g = s := by
  cases s with
  | s x => simp only [AV.sub, mentS_ok h]
  | agg xs => simp only [AV.sub, map_sub h]
  | pel => rfl
theorem mentT_ok {L b : Nat} {g : Nat → Nat → SV} {s : TV} (h : mentT b s = false) : s.sub L b g = s := by
  cases s with
  | undef => rfl
  | a x => simp only [TV.sub, mentA_ok h]
  | tup xs =>
    simp only [TV.sub]
    congr 1
    have : ∀ {xs : List AV}, xs.any (mentA b) = false → xs.map (·.sub L b g) = xs := by
      intro xs
      induction xs with
      | nil => intro _; rfl
      | cons x r ih =>
        intro h
        simp only [List.any_cons, Bool.or_eq_false_iff] at h
        rw [List.map_cons, mentA_ok h.1, ih h.2]
    exact this h
theorem filtF_ok {L b : Nat} {g : Nat → Nat → SV} : ∀ {tm tm' : List (Nat × TV)}, filtF b tm = some tm' → ∀ t, lk tm' t = .undef ∨ lk tm' t = (lk tm t).sub L b g
  | [], tm', h, t => by simp only [filtF, Option.some.injEq] at h; subst h; exact .inl rfl
  | (k, v) :: r, tm', h, t => by
    unfold filtF at h
    split at h
    · rename_i r' hr
      have ih := filtF_ok (L := L) (g := g) hr t
      split at h
      · simp only [Option.some.injEq] at h
        subst h
        rw [lk_cons, lk_cons]
        split
        · exact .inl rfl
        · exact ih
      · rename_i hm
        simp only [Option.some.injEq] at h
        subst h
        rw [lk_cons, lk_cons]
        split
        · exact .inr (mentT_ok hm).symm
        · exact ih
    · cases h
theorem mentO_ok {L b : Nat} {g : Nat → Nat → SV} : ∀ {own : List (Nat × AObj)}, mentO b own = false → ∀ c o, alook own c = some o → o.sub L b g = o
  | [], _, c, o, ho => by cases ho
  | (k, .box e cs) :: r, h, c, o, ho => by
    unfold mentO at h
    split at h
    · cases h
    · rename_i hm
      rw [alook_cons] at ho
      split at ho
      · simp only [Option.some.injEq] at ho
        subst ho
        simp only [AObj.sub, map_sub hm]
      · exact mentO_ok h c o ho
  | (k, .row e esz es) :: r, h, c, o, ho => by
    unfold mentO at h
    rw [alook_cons] at ho
    split at ho
    · simp only [Option.some.injEq] at ho
      subst ho
      rfl
    · exact mentO_ok h c o ho
theorem wk_kill {b : Nat} {o : AObj} (h1 : filtF b tm = some tm') (h2 : mentO b own = false) (h3 : aset own b o = some own') (h4 : liveB own' tm' = true) (h5 : liveOB own' own' = true) :
    Wk { ((St L n tm S own).kill b) with O := upd ((St L n tm S own).kill b).O L b (some o) } (St L n tm' S own') where
  L := rfl
  n := rfl
  tm := fun t => by
    rw [St_get]
    have : ASt.get { ((St L n tm S own).kill b) with O := upd ((St L n tm S own).kill b).O L b (some o) } t = (lk tm t).sub L b fun _ _ => .undef := by
      show look (mapTm _ tm) t = _
      rw [look_mapTm _ rfl, lk_eq]
      rfl
    rw [this]
    exact filtF_ok h1 t
  obj := fun l c q hq => by
    show upd (mapO L (AObj.sub L b _) (mkO S L own)) L b (some o) l c = some q
    have hq : mkO S L own' l c = some q := hq
    by_cases hl : l = L
    · subst hl
      rw [mkO_own, aset_look h3] at hq
      split at hq
      · rename_i e; subst e; rw [upd_same]; exact hq
      · rename_i e
        rw [upd_ne _ _ (by simp [e])]
        simp only [mapO, if_true, mkO_own, hq, Option.map_some, mentO_ok h2 c q hq]
    · simp only [mkO, if_neg hl] at hq
      rw [upd_ne _ _ (by simp [hl])]
      simp only [mapO, if_neg hl, mkO]
      exact hq
  low := fun l c hl => by
    have hl : l < L := hl
    show mkO S L own' l c = upd (mapO L _ (mkO S L own)) L b (some o) l c
    rw [upd_ne _ _ (by omega)]
    simp only [mapO]
    rw [if_neg (by omega), mkO_low _ _ _ hl, mkO_low _ _ _ hl]
  live := fun t => by rw [St_get]; exact liveB_ok h4 t
  box := fun c e cs ho => by
    have ho : mkO S L own' L c = _ := ho
    rw [mkO_own] at ho
    exact liveOB_ok h5 c e cs ho
inductive News1 (tm : List (Nat × TV)) (own : List (Nat × AObj)) (L : Nat) (x : Operand) (e : TypeId) (sz : Nat) (es : List (List PV)) : Prop
  | row (h : evF tm x = some (row sz es))
  | own {b len : Nat} (h : evF tm x = some (.a (.s (.sl L b 0 len)))) (ho : alook own b = some (.row e sz es)) (hl : len = es.length)
theorem News1.ok {x : Operand} {e : TypeId} {sz : Nat} {es : List (List PV)} (h : News1 tm own L x e sz es) {F : List (List PV) → Prop} (hF : F es) : newsOf (St L n tm S own).O ((St L n tm S own).ev x) e sz F := by
  cases h with
  | row h => rw [evF_ok h]; exact ⟨rfl, hF⟩
  | own h ho hl =>
    rw [evF_ok h]
    refine ⟨es, (mkO_own S L own _).trans ho, ?_⟩
    subst hl
    simpa using hF
theorem st_append0 {t e : TypeId} {s x : Operand} {ei : TI} {p : List PV} {r : List (List PV)} (ho : alook own d = none) (ht : sliceT T t = some (e, ei)) (hz : Nat.blt 0 ei.size = true) (hs : evF tm s = some nilS) (hx : News1 tm own L x e ei.size (p :: r))
    (hb : (p :: r).length * ei.bytes ≤ 140737488355328 ∧ (p :: r).length ≤ maxLen) (hd : Nat.blt d n = true)
    (hk : aops P T ops rest Q (St L n ((d, .a (.s (.sl L d 0 (p :: r).length))) :: tm) S ((d, .row e ei.size (p :: r)) :: own))) :
    aop1 P T ops rest Q ⟨some d, .call ⟨.builtin .append, #[s, x], #[t, t]⟩, ty, pos, af, g⟩ (St L n tm S own) := by
  simp only [aop1, x1]
  refine .inl ⟨rfl, .inl ?_⟩
  show eAppend T (St L n tm S own) d t s x _
  unfold eAppend
  obtain ⟨ti, q1, q2, q3⟩ := sliceT_ok ht
  refine ⟨ti, e, ei, q1, q2, q3, Nat.le_of_ble_eq_true hz, hx.ok ?_⟩
  rw [evF_ok hs]
  refine ⟨hb.1, hb.2, ?_⟩
  rw [drop_St ho]
  refine .inl (.inl ?_)
  show ASt.put ⟨L, n, tm, upd (mkO S L own) L d (some (.row e ei.size (p :: r)))⟩ (some d) _ _
  rw [mkO_upd]
  exact put_some hd hk
theorem st_append1 {t e : TypeId} {s x : Operand} {ei : TI} {b len : Nat} {es es2 es3 : List (List PV)} (ht : sliceT T t = some (e, ei)) (hz : Nat.blt 0 ei.size = true) (hs : evF tm s = some (.a (.s (.sl L b 0 len)))) (hb : alook own b = some (.row e ei.size es)) (hl : len = es.length)
    (hx : News1 tm own L x e ei.size es2) (he : es ++ es2 = es3) (hm : es3.length * ei.bytes ≤ 140737488355328 ∧ es3.length ≤ maxLen)
    (h1 : filtF b tm = some tm') (h2 : mentO b own = false) (h3 : aset own b (.row e ei.size es3) = some own') (h4 : liveB own' tm' = true) (h5 : liveOB own' own' = true) (h6 : hasO own' b = true) (hd : Nat.blt d n = true)
    (hk : aops P T ops rest Q (St L n ((d, .a (.s (.sl L b 0 es3.length))) :: tm') S own')) :
    aop1 P T ops rest Q ⟨some d, .call ⟨.builtin .append, #[s, x], #[t, t]⟩, ty, pos, af, g⟩ (St L n tm S own) := by
  simp only [aop1, x1]
  refine .inl ⟨rfl, .inl ?_⟩
  show eAppend T (St L n tm S own) d t s x _
  unfold eAppend
  obtain ⟨ti, q1, q2, q3⟩ := sliceT_ok ht
  refine ⟨ti, e, ei, q1, q2, q3, Nat.le_of_ble_eq_true hz, hx.ok ?_⟩
  rw [evF_ok hs]
  subst he
  rw [List.length_append] at hm
  refine ⟨rfl, rfl, es, (mkO_own S L own b).trans hb, hl, hm.1, hm.2, ?_⟩
  refine .inr ⟨_, wk_kill h1 h2 h3 h4 h5, ?_, ?_⟩
  · intro _
    exact hasO_ok h6
  · exact put_some hd hk
end
end Go.Rd
namespace Go.Rd
open Go.RowKit Go.Proofs
section
variable {rd : Bool}
variable {P : Program} {T : TypeId → Option TI} {L n : Nat} {tm tm' : List (Nat × TV)} {S : Store} {own own' : List (Nat × AObj)} {ops rest : List Oper} {Q : ASt → Prop}
theorem c_regionA {Q : Exit → ASt → Prop} {k : Nat} {l : List Oper} {st : ASt} (m : Nat) (hm : l.length = m) (h : dany P T rd l m (Array.replicate m false) (Q .normal) st) : awp P T rd (.region k l.toArray true) Q st := by
  subst hm
  unfold awp
  rw [if_pos rfl]
  exact .inr (by simpa using h)
theorem d_done {fuel : Nat} {listed : Array Bool} {st : ASt} (hr : Region.ready .any ops.toArray listed = []) (h : Q st) : dany P T rd ops fuel listed Q st := by
  cases fuel with
  | zero => exact ⟨hr, h⟩
  | succ f => exact .inl ⟨hr, h⟩
theorem d_take (hT : TOk P T) {fuel : Nat} {listed : Array Bool} (i : Nat) {d : Tmp} {op : Op} {ty : TypeId} {pos : String} {af : Array Edge} {v : TV} (ho : ops[i]? = some ⟨some d, op, ty, pos, af, none⟩) (hl : isLoad op = false) (hq : isQ ⟨some d, op, ty, pos, af, none⟩ = true) (hnn : noNan T ⟨some d, op, ty, pos, af, none⟩ = true)
    (hs : Region.noSelect ops.toArray = true) (hf : Region.free .any ops.toArray listed i = true) (hr : (Region.ready .any ops.toArray listed).contains i = true) (hv : xqf T tm op = some v) (hd : Nat.blt d n = true)
    (h : dany P T false ops fuel (listed.setIfInBounds i true) Q (St L n ((d, v) :: tm) S own)) : dany P T false ops (fuel + 1) listed Q (St L n tm S own) := by
  refine .inr (.inl ⟨rfl, i, _, ho, hl, hs, hf, hr, ?_⟩)
  show xq P T (St L n tm S own) op fun v => (St L n tm S own).put (some d) v (dany P T false ops fuel (listed.setIfInBounds i true) Q)
  have := xqf_ok (P := P) (L := L) (n := n) (S := S) (own := own) hT (d := d) (K := fun v s => (St L n tm S own).put (some d) v (dany P T false ops fuel (listed.setIfInBounds i true) Q)) hv (put_some hd h)
  rw [show x1 P T (St L n tm S own) d op _ = _ from x1_quiet (o := ⟨some d, op, ty, pos, af, none⟩) hq hnn] at this
  exact this
theorem d_one {fuel : Nat} {listed : Array Bool} {st : ASt} (i : Nat) {dst : Option Tmp} {op : Op} {ty : TypeId} {pos : String} {af : Array Edge} (hr : Region.ready .any ops.toArray listed = [i]) (ho : ops[i]? = some ⟨dst, op, ty, pos, af, none⟩)
    (h : aop1 P T ops [] (dany P T rd ops fuel (listed.setIfInBounds i true) Q) ⟨dst, op, ty, pos, af, none⟩ st) : dany P T rd ops (fuel + 1) listed Q st := by
  refine .inr (.inr ⟨_, hr, by simp, fun j hj => ?_⟩)
  rw [List.mem_singleton] at hj
  subst hj
  exact ⟨_, ho, h⟩
theorem d_two {fuel : Nat} {listed : Array Bool} {st : ASt} (i j : Nat) {dst dst2 : Option Tmp} {op op2 : Op} {ty ty2 : TypeId} {pos pos2 : String} {af af2 : Array Edge} (hr : Region.ready .any ops.toArray listed = [i, j]) (ho : ops[i]? = some ⟨dst, op, ty, pos, af, none⟩)
    (ho2 : ops[j]? = some ⟨dst2, op2, ty2, pos2, af2, none⟩)
    (h : aop1 P T ops [] (dany P T rd ops fuel (listed.setIfInBounds i true) Q) ⟨dst, op, ty, pos, af, none⟩ st)
    (h2 : aop1 P T ops [] (dany P T rd ops fuel (listed.setIfInBounds j true) Q) ⟨dst2, op2, ty2, pos2, af2, none⟩ st) : dany P T rd ops (fuel + 1) listed Q st := by
  refine .inr (.inr ⟨_, hr, by simp, fun k hk => ?_⟩)
  simp only [List.mem_cons, List.not_mem_nil, or_false] at hk
  rcases hk with rfl | rfl
  · exact ⟨_, ho, h⟩
  · exact ⟨_, ho2, h2⟩
theorem AC_reveal {f : FuncId} {l b off len : Nat} {args : List AV} {R : RV → Store → Prop} (h : ∀ N, len ≤ N → N ≤ maxLen → AC P L f (.s (.slc l b off len N) :: args) S R) (hm : len ≤ maxLen) : AC P L f (.s (.sl l b off len) :: args) S R := by
  refine ⟨(h len (Nat.le_refl _) hm).1, fun w ι vals h1 h2 h3 h4 h5 => ?_⟩
  cases vals with
  | nil => simp at h4
  | cons v vals =>
    obtain ⟨e, esz, es, cap, c, ho, hv, q1, q2, q3, q4, q5⟩ := h5 0 _ v rfl rfl
    refine (h cap q2 q3).2 w ι (v :: vals) h1 h2 h3 (by simpa using h4) (fun i y u hy hu => ?_)
    cases i with
    | zero =>
      simp only [List.getElem?_cons_zero, Option.some.injEq] at hy hu
      subst hy; subst hu
      exact ⟨e, esz, es, c, ho, hv, q2, q3, q4, q5⟩
    | succ i => exact h5 (i + 1) y u (by simpa using hy) (by simpa using hu)
theorem AC_slOut {f : FuncId} {args : List AV} {R : RV → Store → Prop}
    (h : AC P L f args S fun r S' => R r S' ∨ ∃ l b len N e esz es, r = .val (.a (.s (.slc l b 0 len N))) ∧ S' l b = some (.row e esz es) ∧ len ≤ es.length ∧ R (.val (.a (.s (.sl l b 0 len)))) S') : AC P L f args S R := by
  refine ⟨h.1, fun w ι vals h1 h2 h3 h4 h5 => (h.2 w ι vals h1 h2 h3 h4 h5).mono fun e w' ⟨r, S', v, ι', hR, q1, q2, q3, q4, q5, q6⟩ => ?_⟩
  rcases hR with hR | ⟨l, b, len, N, e1, esz, es, rfl, ho, hle, hR⟩
  · exact ⟨r, S', v, ι', hR, q1, q2, q3, q4, q5, q6⟩
  · refine ⟨_, S', v, ι', hR, q1, q2, q3, q4, q5, ?_⟩
    obtain ⟨e2, esz2, es2, c, ho2, hv, p2, p3, p4, p5⟩ := q6
    have ho2 : S' l b = some (.row e2 esz2 es2) := ho2
    rw [ho] at ho2
    simp only [Option.some.injEq, AObj.row.injEq] at ho2
    obtain ⟨rfl, rfl, rfl⟩ := ho2
    exact ⟨e1, esz, es, N, c, ho, hv, by omega, p2, p3, p4, p5⟩
end
end Go.Rd
namespace Go.Rd
open Go.RowKit Go.Proofs
def boundF (tm : List (Nat × TV)) : Option Operand → Int → Option Int
  | none, d => some d
  | some x, _ => match evF tm x with
    | some (.a (.s (.pv (.lit (.int _ k))))) => some k
    | _ => none
def argsN (tm : List (Nat × TV)) : List Operand → Option (List AV)
  | [] => some []
  | x :: r => match evF tm x with
    | some (.a v) => match argsN tm r with
      | some vs => some (v :: vs)
      | none => none
    | _ => none
section
variable {P : Program} {T : TypeId → Option TI} {L n : Nat} {tm tm' : List (Nat × TV)} {S : Store} {own own' : List (Nat × AObj)} {ops rest : List Oper} {Q : ASt → Prop}
variable {d : Tmp} {ty : TypeId} {pos : String} {af : Array Edge} {g : Option (Nat × Bool)}
theorem boundF_ok {lo : Option Operand} {dv k : Int} {K : Int → Prop} (h : boundF tm lo dv = some k) (hk : K k) : bound (lo.map (St L n tm S own).ev) dv K := by
  cases lo with
  | none => simp only [boundF, Option.some.injEq] at h; subst h; exact hk
  | some x =>
    simp only [boundF] at h
    split at h
    · rename_i kk hx
      simp only [Option.some.injEq] at h; subst h
      show bound (some ((St L n tm S own).ev x)) dv K
      rw [evF_ok hx]
      exact hk
    · cases h
theorem st_cap {t : TypeId} {x : Operand} {l b off len cap : Nat} {ei : TypeId × TI} (hT : TOk P T) (hx : evF tm x = some (.a (.s (.slc l b off len cap)))) (ht : sliceT T t = some ei) (hd : Nat.blt d n = true)
    (hk : (cap : Int) ≤ 9223372036854775807 → aops P T ops rest Q (St L n ((d, int cap) :: tm) S own)) :
    aop1 P T ops rest Q ⟨some d, .call ⟨.builtin .cap, #[x], #[t]⟩, ty, pos, af, g⟩ (St L n tm S own) := by
  simp only [aop1, x1]
  show qCap P t ((St L n tm S own).ev x) (fun v => (St L n tm S own).put (some d) v (aops P T ops rest Q))
  rw [evF_ok hx]
  exact ⟨sliceT_und hT ht, fun hm => put_some hd (hk (by have : maxLen = 9223372036854775807 := rfl; omega))⟩
theorem st_lenslc {t : TypeId} {x : Operand} {l b off len cap : Nat} {ei : TypeId × TI} (hT : TOk P T) (hx : evF tm x = some (.a (.s (.slc l b off len cap)))) (ht : sliceT T t = some ei) (hd : Nat.blt d n = true)
    (hk : (len : Int) ≤ 9223372036854775807 → aops P T ops rest Q (St L n ((d, int len) :: tm) S own)) :
    aop1 P T ops rest Q ⟨some d, .call ⟨.builtin .len, #[x], #[t]⟩, ty, pos, af, g⟩ (St L n tm S own) := by
  simp only [aop1, x1]
  show qLen P t ((St L n tm S own).ev x) (fun v => (St L n tm S own).put (some d) v (aops P T ops rest Q))
  rw [evF_ok hx]
  exact ⟨sliceT_und hT ht, fun hm => put_some hd (hk (by have : maxLen = 9223372036854775807 := rfl; omega))⟩
theorem st_slc {t e e' : TypeId} {ei : TI} {x : Operand} {lo hi : Option Operand} {l0 b off len cap : Nat} {l h : Int} {es : List (List PV)} (hx : evF tm x = some (.a (.s (.slc l0 b off len cap)))) (ht : sliceT T t = some (e, ei))
    (hl : boundF tm lo 0 = some l) (hh : boundF tm hi len = some h) (ho : mkO S L own l0 b = some (.row e' ei.size es)) (hd : Nat.blt d n = true) (hb : 0 ≤ l ∧ l ≤ h ∧ h ≤ cap)
    (hk : l.toNat < cap → aops P T ops rest Q (St L n ((d, .a (.s (.slc l0 b (off + l.toNat) (h.toNat - l.toNat) (cap - l.toNat)))) :: tm) S own))
    (hk2 : l.toNat = cap → aops P T ops rest Q (St L n ((d, row ei.size []) :: tm) S own)) :
    aop1 P T ops rest Q ⟨some d, .slice t x lo hi none, ty, pos, af, g⟩ (St L n tm S own) := by
  simp only [aop1, x1]
  refine .inl ⟨rfl, ?_⟩
  obtain ⟨ti, q1, q2, q3⟩ := sliceT_ok ht
  rw [evF_ok hx]
  refine ⟨ti, q1, ?_⟩
  rw [q2]
  refine boundF_ok hl (boundF_ok hh ⟨ei, q3, ⟨e', es, ho⟩, hb.1, hb.2.1, hb.2.2, fun h1 => put_some hd (hk h1), fun h1 => put_some hd (hk2 h1)⟩)
theorem st_slcE {t e e' : TypeId} {ei : TI} {x : Operand} {lo hi : Option Operand} {l0 b off len cap : Nat} {l h : Int} {es : List (List PV)} (off' len' cap' : Nat) (hx : evF tm x = some (.a (.s (.slc l0 b off len cap)))) (ht : sliceT T t = some (e, ei))
    (hl : boundF tm lo 0 = some l) (hh : boundF tm hi len = some h) (ho : mkO S L own l0 b = some (.row e' ei.size es)) (hd : Nat.blt d n = true) (hb : 0 ≤ l ∧ l ≤ h ∧ h ≤ cap) (e1 : off + l.toNat = off' ∧ h.toNat - l.toNat = len' ∧ cap - l.toNat = cap')
    (hk : l < cap → aops P T ops rest Q (St L n ((d, .a (.s (.slc l0 b off' len' cap'))) :: tm) S own))
    (hk2 : l = cap → aops P T ops rest Q (St L n ((d, row ei.size []) :: tm) S own)) :
    aop1 P T ops rest Q ⟨some d, .slice t x lo hi none, ty, pos, af, g⟩ (St L n tm S own) := by
  obtain ⟨rfl, rfl, rfl⟩ := e1
  exact st_slc hx ht hl hh ho hd hb (fun h1 => hk (by omega)) (fun h1 => hk2 (by omega))
theorem st_slice3 {t e : TypeId} {ei : TI} {x lo hi mx : Operand} {l0 b off len cap : Nat} {k1 k2 k3 : IntKind} {l h m : Int} (hx : evF tm x = some (.a (.s (.slc l0 b off len cap)))) (ht : sliceT T t = some (e, ei))
    (hl : evF tm lo = some (lit (.int k1 l))) (hh : evF tm hi = some (lit (.int k2 h))) (hm : evF tm mx = some (lit (.int k3 m))) (hd : Nat.blt d n = true) (hb : 0 ≤ l ∧ l ≤ h ∧ h ≤ m ∧ m ≤ cap)
    (hk : aops P T ops rest Q (St L n ((d, .undef) :: tm) S own)) : aop1 P T ops rest Q ⟨some d, .slice t x (some lo) (some hi) (some mx), ty, pos, af, g⟩ (St L n tm S own) := by
  simp only [aop1, x1]
  refine .inr ⟨lo, hi, mx, rfl, rfl, rfl, ?_⟩
  obtain ⟨ti, q1, q2, q3⟩ := sliceT_ok ht
  refine ⟨ti, e, ei, q1, q2, q3, ?_⟩
  rw [evF_ok hx, evF_ok hl, evF_ok hh, evF_ok hm]
  exact ⟨hb.1, hb.2.1, hb.2.2.1, hb.2.2.2, put_some hd hk⟩
def SrcR (O : Store) (v : TV) (e : TypeId) (sz len m : Nat) (news : List (List PV)) : Prop := ∀ F : Nat → List (List PV) → Prop, F m news → srcOf O v e sz len F
theorem SrcR.row {O : Store} {e : TypeId} {sz len : Nat} {es : List (List PV)} : SrcR O (row sz es) e sz len es.length (es.take len) := fun _ hF => ⟨rfl, hF⟩
theorem SrcR.slc {O : Store} {e : TypeId} {sz len l b off m cap : Nat} {es : List (List PV)} (ho : O l b = some (.row e sz es)) (hle : off + min len m ≤ es.length) :
    SrcR O (.a (.s (.slc l b off m cap))) e sz len m ((es.drop off).take (min len m)) := fun _ hF => ⟨es, ho, hle, hF⟩
theorem SrcR.sl {O : Store} {e : TypeId} {sz len l b off m : Nat} {es : List (List PV)} (ho : O l b = some (.row e sz es)) :
    SrcR O (.a (.s (.sl l b off m))) e sz len m ((es.drop off).take (min len m)) := fun _ hF => ⟨es, ho, hF⟩
theorem st_copyL {dst : Option Tmp} {t t2 e : TypeId} {ei : TI} {x y : Operand} {l0 b off len cap m : Nat} {es news es2 : List (List PV)} {vy : TV} (hx : evF tm x = some (.a (.s (.slc l0 b off len cap)))) (ht : sliceT T t = some (e, ei)) (hz : Nat.blt 0 ei.size = true)
    (hl : l0 < L) (ho : S l0 b = some (.row e ei.size es)) (hy : evF tm y = some vy) (hs : SrcR (mkO S L own) vy e ei.size len m news) (hoff : off ≤ es.length) (hm : off + news.length ≤ maxLen) (he : over es off news = es2)
    (hk : (St L n tm (upd S l0 b (some (.row e ei.size es2))) own).put dst (int ((min m len : Nat) : Int)) (aops P T ops rest Q)) :
    aop1 P T ops rest Q ⟨dst, .call ⟨.builtin .copy, #[x, y], #[t, t2]⟩, ty, pos, af, g⟩ (St L n tm S own) := by
  simp only [aop1, x1]
  show eCopy T (St L n tm S own) t x y (fun v st' => st'.put dst v (aops P T ops rest Q))
  obtain ⟨ti, q1, q2, q3⟩ := sliceT_ok ht
  refine ⟨ti, e, ei, q1, q2, q3, Nat.le_of_ble_eq_true hz, ?_⟩
  rw [evF_ok hx, evF_ok hy]
  refine ⟨es, (mkO_low _ _ _ hl).trans ho, hs _ ⟨hoff, hm, ?_⟩⟩
  rw [he]
  have e1 : ({ (St L n tm S own) with O := upd (St L n tm S own).O l0 b (some (.row e ei.size es2)) } : ASt) = St L n tm (upd S l0 b (some (.row e ei.size es2))) own := by
    show (⟨L, n, tm, upd (mkO S L own) l0 b _⟩ : ASt) = _
    rw [mkO_updlow _ _ _ _ hl]
    rfl
  rw [e1]
  exact hk
theorem st_clearL {t e : TypeId} {ei : TI} {x : Operand} {l0 b off len cap : Nat} {es es2 : List (List PV)} (hx : evF tm x = some (.a (.s (.slc l0 b off len cap)))) (ht : sliceT T t = some (e, ei)) (hz : Nat.blt 0 ei.size = true)
    (hl : l0 < L) (ho : S l0 b = some (.row e ei.size es)) (hoff : off ≤ es.length ∧ off + len ≤ maxLen ∧ 0 < len) (he : over es off (List.replicate len (ei.zero.map .lit)) = es2)
    (hk : aops P T ops rest Q (St L n tm (upd S l0 b (some (.row e ei.size es2))) own)) :
    aop1 P T ops rest Q ⟨none, .call ⟨.builtin .clear, #[x], #[t]⟩, ty, pos, af, g⟩ (St L n tm S own) := by
  simp only [aop1, x1]
  show eClear T (St L n tm S own) t x (fun v st' => st'.put none v (aops P T ops rest Q))
  obtain ⟨ti, q1, q2, q3⟩ := sliceT_ok ht
  refine ⟨ti, e, ei, q1, q2, q3, Nat.le_of_ble_eq_true hz, ?_⟩
  rw [evF_ok hx]
  refine ⟨es, (mkO_low _ _ _ hl).trans ho, hoff.1, hoff.2.1, hoff.2.2, ?_⟩
  rw [he]
  show ASt.put ⟨L, n, tm, upd (mkO S L own) l0 b _⟩ none _ _
  rw [mkO_updlow _ _ _ _ hl]
  exact hk
def SrcA (O : Store) (v : TV) (e : TypeId) (sz : Nat) (news : List (List PV)) : Prop := ∀ F : List (List PV) → Prop, F news → srcAll O v e sz F
theorem SrcA.row {O : Store} {e : TypeId} {sz : Nat} {es : List (List PV)} : SrcA O (row sz es) e sz es := fun _ hF => ⟨rfl, hF⟩
theorem SrcA.slc {O : Store} {e : TypeId} {sz l b off m cap : Nat} {es : List (List PV)} (ho : O l b = some (.row e sz es)) (hle : off + m ≤ es.length) :
    SrcA O (.a (.s (.slc l b off m cap))) e sz ((es.drop off).take m) := fun _ hF => ⟨es, ho, hle, hF⟩
theorem SrcA.sl {O : Store} {e : TypeId} {sz l b off m : Nat} {es : List (List PV)} (ho : O l b = some (.row e sz es)) :
    SrcA O (.a (.s (.sl l b off m))) e sz ((es.drop off).take m) := fun _ hF => ⟨es, ho, hF⟩
theorem st_appendL {t e : TypeId} {ei : TI} {s x : Operand} {l0 b len cap : Nat} {es news es2 es3 : List (List PV)} {vx : TV} (hs : evF tm s = some (.a (.s (.slc l0 b 0 len cap)))) (ht : sliceT T t = some (e, ei)) (hz : Nat.blt 0 ei.size = true)
    (hl : l0 < L) (ho : S l0 b = some (.row e ei.size es)) (hdd : alook own d = none) (hx : evF tm x = some vx) (hsrc : SrcA (mkO S L own) vx e ei.size news) (hle : len ≤ es.length) (hm : len + news.length ≤ maxLen) (hd : Nat.blt d n = true)
    (he : over es len news = es2) (he3 : es.take len ++ news = es3) (hby : cap < len + news.length → (len + news.length) * ei.bytes ≤ 140737488355328)
    (hk : len + news.length ≤ cap → aops P T ops rest Q (St L n ((d, .a (.s (.slc l0 b 0 (len + news.length) cap))) :: tm) (upd S l0 b (some (.row e ei.size es2))) own))
    (hk2 : cap < len + news.length → aops P T ops rest Q (St L n ((d, .a (.s (.sl L d 0 es3.length))) :: tm) S ((d, .row e ei.size es3) :: own))) :
    aop1 P T ops rest Q ⟨some d, .call ⟨.builtin .append, #[s, x], #[t, t]⟩, ty, pos, af, g⟩ (St L n tm S own) := by
  simp only [aop1, x1]
  refine .inl ⟨rfl, .inr ?_⟩
  show eAppendS T (St L n tm S own) d t s x _
  obtain ⟨ti, q1, q2, q3⟩ := sliceT_ok ht
  refine ⟨ti, e, ei, q1, q2, q3, Nat.le_of_ble_eq_true hz, ?_⟩
  rw [evF_ok hx]
  refine hsrc _ ?_
  rw [evF_ok hs]
  refine ⟨es, (mkO_low _ _ _ hl).trans ho, hle, hm, fun h1 => .inl ?_, fun h1 => ⟨hby h1, ?_⟩⟩
  · rw [he]
    show ASt.put ⟨L, n, tm, upd (mkO S L own) l0 b _⟩ (some d) _ _
    rw [mkO_updlow _ _ _ _ hl]
    exact put_some hd (hk h1)
  · rw [drop_St hdd, he3]
    refine .inl (.inl ?_)
    show ASt.put ⟨L, n, tm, upd (mkO S L own) L d _⟩ (some d) _ _
    rw [mkO_upd]
    exact put_some hd (hk2 h1)
theorem st_appendIn {t e : TypeId} {ei : TI} {s x : Operand} {l0 b len cap : Nat} {es news : List (List PV)} {vx : TV} (len' : Nat) (es2 : List (List PV)) (hs : evF tm s = some (.a (.s (.slc l0 b 0 len cap)))) (ht : sliceT T t = some (e, ei)) (hz : Nat.blt 0 ei.size = true)
    (hl : l0 < L) (ho : S l0 b = some (.row e ei.size es)) (hdd : alook own d = none) (hx : evF tm x = some vx) (hd : Nat.blt d n = true) (hsrc : SrcA (mkO S L own) vx e ei.size news) (hle : len ≤ es.length) (hn : len + news.length = len') (hm : len' ≤ maxLen) (hroom : len' ≤ cap)
    (he : over es len news = es2) (hk : aops P T ops rest Q (St L n ((d, .a (.s (.slc l0 b 0 len' cap))) :: tm) (upd S l0 b (some (.row e ei.size es2))) own)) :
    aop1 P T ops rest Q ⟨some d, .call ⟨.builtin .append, #[s, x], #[t, t]⟩, ty, pos, af, g⟩ (St L n tm S own) := by
  subst hn
  exact st_appendL hs ht hz hl ho hdd hx hsrc hle hm hd he rfl (fun h => absurd h (by omega)) (fun _ => hk) (fun h => absurd h (by omega))
theorem argsN_ok : ∀ (xs : List Operand) {vs : List AV}, argsN tm xs = some vs → argsOf (xs.map (St L n tm S own).ev) = some vs
  | [], vs, h => by simp only [argsN, Option.some.injEq] at h; subst h; rfl
  | x :: r, vs, h => by
    unfold argsN at h
    split at h
    · rename_i v hv
      split at h
      · rename_i vs' hr
        simp only [Option.some.injEq] at h
        subst h
        rw [List.map_cons, evF_ok hv]
        simp only [argsOf, argsN_ok r hr, Option.map_some]
      · cases h
    · cases h
theorem st_callN {fop : Operand} {xs : List Operand} {ts : Array TypeId} {f : FuncId} {avs : List AV} {R : RV → Store → Prop} (ho : alook own d = none) (hf : evF tm fop = some (.a (.s (.clo f [])))) (hx : argsN tm xs = some avs)
    (hd : Nat.blt d n = true) (hA : AC P (L + 1) f avs (mkO S L own) R)
    (hk : ∀ r S', R r S' → ∃ tv own', r = .val tv ∧ S' = mkO S L own' ∧ aops P T ops rest Q (St L n ((d, tv) :: tm) S own')) :
    aop1 P T ops rest Q ⟨some d, .call ⟨.value fop, xs.toArray, ts⟩, ty, pos, af, g⟩ (St L n tm S own) := by
  simp only [aop1, x1, Option.getD_some]
  refine .inl (.inr ?_)
  unfold acallAt
  rw [drop_St ho, evF_ok hf]
  refine ⟨avs, R, argsN_ok xs hx, by rw [List.map_nil, List.append_nil]; exact hA, fun r S' hr => ?_⟩
  obtain ⟨tv, own', rfl, rfl, h⟩ := hk r S' hr
  exact .inl ⟨Nat.le_of_ble_eq_true hd, h⟩
end
end Go.Rd
namespace Go.Rd
open Go.RowKit Go.Proofs
section
variable {P : Program} {T : TypeId → Option TI} {L n : Nat} {tm tm' : List (Nat × TV)} {S : Store} {own own' : List (Nat × AObj)} {Q : Exit → ASt → Prop}
theorem lk_all {p : Nat → Bool} : ∀ {tm : List (Nat × TV)}, (tm.all fun x => p x.1) = true → ∀ t, lk tm t = .undef ∨ p t = true
  | [], _, _ => .inl rfl
  | (k, v) :: r, h, t => by
    simp only [List.all_cons, Bool.and_eq_true] at h
    unfold lk
    cases hb : Nat.beq t k with
    | true => exact .inr (by rw [Nat.eq_of_beq_eq_true hb]; exact h.1)
    | false => exact lk_all h.2 t
def kF {β : Type} (I : β → Prop) (ownI : β → List (Nat × AObj)) (L n : Nat) (S : Store) (tm' : List (Nat × TV)) (own0 : List (Nat × AObj)) (W : Nat → Bool) (Q : Exit → ASt → Prop) : Exit → ASt → Prop :=
  roundK Q (fun O => ∃ b, I b ∧ O = mkO S L (ownI b)) (St L n tm' S own0) W
theorem c_range {β : Type} {g : Operand} {ps : Array Tmp} {assign body : Code} {f : FuncId} {css : List (List PV)} {xs : List (List AV)} {mv : List (Tmp × Tmp)} (I : Nat → β → Prop) (tm' : List (Nat × TV)) (ownI : β → List (Nat × AObj)) (b0 : β)
    (hg : evF tm g = some (.a (.s (.pv (.clo f css))))) (hit : Iter P f css xs) (hmv : movesOf assign = some mv) (hps : (ps.toList.all fun p => Nat.blt p n) = true) (hmvn : (mv.all fun p => Nat.blt p.1 n) = true) (hlen : ∀ x ∈ xs, x.length = ps.size)
    (h0 : I 0 b0) (h1 : agree tm tm') (h2 : oagree own (ownI b0)) (h3 : liveB (ownI b0) tm' = true) (h4 : liveOB (ownI b0) (ownI b0) = true)
    (hr : ∀ (k : Nat) (x : List AV) (b : β), xs[k]? = some x → I k b → awp P T true body (kF (I (k + 1)) ownI L n S tm' (ownI b0) (writesR ps.toList mv body) Q) (mvTm (psTm (St L n tm' S (ownI b)) ps.toList x) mv))
    (hd : ∀ b, I xs.length b → Q .normal (St L n tm' S (ownI b))) : awp P T false (.rangeFunc g ps assign body) Q (St L n tm S own) := by
  refine ⟨rfl, St L n tm' S (ownI b0), f, css, xs, fun k O => ∃ b, I k b ∧ O = mkO S L (ownI b), mv, .inr (wk_St h1 h2 h3 h4), evF_ok hg, hit, hmv, hlen, fun p hp => ?_, fun p hp => ?_, ⟨b0, h0, rfl⟩, ?_, ?_⟩
  · exact Nat.le_of_ble_eq_true (List.all_eq_true.1 hps p hp)
  · exact Nat.le_of_ble_eq_true (List.all_eq_true.1 hmvn p hp)
  · rintro k x O hx ⟨b, hb, rfl⟩
    exact hr k x b hx hb
  · rintro O ⟨b, hb, rfl⟩
    exact hd b hb
variable {β : Type} {I : β → Prop} {ownI : β → List (Nat × AObj)} {own0 : List (Nat × AObj)} {W : Nat → Bool}
theorem kF_back (own3 : List (Nat × AObj)) (hw : (tm'.all fun x => !W x.1) = true) : ∀ t, (St L n tm' S own0).get t = .undef ∨ (W t = false ∧ (St L n tm' S own3).get t = (St L n tm' S own0).get t) := by
  intro t
  rw [St_get, St_get]
  rcases lk_all (p := fun t => !W t) hw t with h | h
  · exact .inl h
  · exact .inr ⟨by simpa using h, rfl⟩
theorem kF_next (b' : β) (hi : I b') (hw : (tm'.all fun x => !W x.1) = true) (h1 : agree tm tm') (h2 : oagree own (ownI b')) (h3 : liveB (ownI b') tm' = true) (h4 : liveOB (ownI b') (ownI b') = true) :
    kF I ownI L n S tm' own0 W Q .normal (St L n tm S own) :=
  ⟨St L n tm' S (ownI b'), .inr (wk_St h1 h2 h3 h4), kF_back _ hw, b', hi, rfl⟩
theorem kF_ret (own3 : List (Nat × AObj)) (hw : (tm'.all fun x => !W x.1) = true) (h1 : agree tm tm') (h2 : oagree own own3) (h3 : liveB own3 tm' = true) (h4 : liveOB own3 own3 = true) (hq : Q .ret (St L n tm' S own3)) :
    kF I ownI L n S tm' own0 W Q .ret (St L n tm S own) :=
  ⟨St L n tm' S own3, .inr (wk_St h1 h2 h3 h4), kF_back _ hw, hq⟩
variable {ops rest : List Oper} {Q : ASt → Prop} {d : Tmp} {ty : TypeId} {pos : String} {af : Array Edge} {g : Option (Nat × Bool)}
theorem st_ext {fop : Operand} {xs : List Operand} {ts : Array TypeId} {f : FuncId} {avs : List AV} {v : TV} (hf : evF tm fop = some (.a (.s (.clo f [])))) (hx : argsN tm xs = some avs) (hd : Nat.blt d n = true) (hA : Ext P f avs (mkO S L own) v)
    (hk : aops P T ops rest Q (St L n ((d, v) :: tm) S own)) : aop1 P T ops rest Q ⟨some d, .call ⟨.value fop, xs.toArray, ts⟩, ty, pos, af, g⟩ (St L n tm S own) := by
  simp only [aop1, x1, Option.getD_some]
  exact .inr ⟨f, avs, v, evF_ok hf, argsN_ok xs hx, hA, put_some hd hk⟩
theorem st_appendZ {t t' e : TypeId} {ei : TI} {s x : Operand} {l0 b len cap m : Nat} {k : IntKind} {es es2 : List (List PV)} {nn : Int} {k' : IntKind} (hs : evF tm s = some (.a (.s (.slc l0 b 0 len cap)))) (hT : TOk P T) (ht : sliceT T t = some (e, ei)) (ht' : intT T t' = some k) (hz : Nat.blt 0 ei.size = true)
    (hl : l0 < L) (ho : S l0 b = some (.row e ei.size es)) (hdd : alook own d = none) (hx : evF tm x = some (lit (.int k' nn))) (hnn : nn = m) (hpos : 0 < m) (hle : len ≤ es.length) (hm : len + m ≤ maxLen) (hd : Nat.blt d n = true) (hroom : cap < len + m)
    (he : es.take len ++ List.replicate m (ei.zero.map .lit) = es2) (hby : (len + m) * ei.bytes ≤ 140737488355328)
    (hk : aops P T ops rest Q (St L n ((d, .a (.s (.sl L d 0 es2.length))) :: tm) S ((d, .row e ei.size es2) :: own))) :
    aop1 P T ops rest Q ⟨some d, .call ⟨.builtin .append, #[s, x], #[t, t']⟩, ty, pos, af, g⟩ (St L n tm S own) := by
  subst hnn
  simp only [aop1, x1]
  refine .inr ?_
  show eAppendZ P T (St L n tm S own) d t t' s x _
  obtain ⟨ti, q1, q2, q3⟩ := sliceT_ok ht
  refine ⟨ti, e, ei, k, q1, q2, q3, Nat.le_of_ble_eq_true hz, intT_ok hT ht', ?_⟩
  rw [evF_ok hs, evF_ok hx]
  refine ⟨by omega, es, (mkO_low _ _ _ hl).trans ho, hle, hm, hroom, hby, ?_⟩
  rw [drop_St hdd, Int.toNat_natCast, he]
  refine .inl (.inl ?_)
  show ASt.put ⟨L, n, tm, upd (mkO S L own) L d _⟩ (some d) _ _
  rw [mkO_upd]
  exact put_some hd hk
theorem st_copyO {dst : Option Tmp} {t t2 e : TypeId} {ei : TI} {x y : Operand} {b off len m : Nat} {es news es2 : List (List PV)} {vy : TV} (hx : evF tm x = some (.a (.s (.sl L b off len)))) (ht : sliceT T t = some (e, ei)) (hz : Nat.blt 0 ei.size = true)
    (ho : alook own b = some (.row e ei.size es)) (hy : evF tm y = some vy) (hs : SrcR (mkO S L own) vy e ei.size len m news) (hoff : off ≤ es.length) (hm : off + news.length ≤ maxLen) (he : over es off news = es2) (h2 : aset own b (.row e ei.size es2) = some own')
    (hk : (St L n tm S own').put dst (int ((min m len : Nat) : Int)) (aops P T ops rest Q)) :
    aop1 P T ops rest Q ⟨dst, .call ⟨.builtin .copy, #[x, y], #[t, t2]⟩, ty, pos, af, g⟩ (St L n tm S own) := by
  simp only [aop1, x1]
  show eCopy T (St L n tm S own) t x y (fun v st' => st'.put dst v (aops P T ops rest Q))
  obtain ⟨ti, q1, q2, q3⟩ := sliceT_ok ht
  refine ⟨ti, e, ei, q1, q2, q3, Nat.le_of_ble_eq_true hz, ?_⟩
  rw [evF_ok hx, evF_ok hy]
  refine ⟨es, (mkO_own _ _ _ _).trans ho, hs _ ⟨hoff, hm, ?_⟩⟩
  rw [he]
  have e1 : ({ (St L n tm S own) with O := upd (St L n tm S own).O L b (some (.row e ei.size es2)) } : ASt) = St L n tm S own' := by
    show (⟨L, n, tm, upd (mkO S L own) L b _⟩ : ASt) = _
    rw [mkO_aset h2]
    rfl
  rw [e1]
  exact hk
theorem st_slO {t e e' : TypeId} {ei : TI} {x : Operand} {lo hi : Option Operand} {l0 b off len : Nat} {l h : Int} {es : List (List PV)} (off' len' : Nat) (hx : evF tm x = some (.a (.s (.sl l0 b off len)))) (ht : sliceT T t = some (e, ei))
    (hl : boundF tm lo 0 = some l) (hh : boundF tm hi len = some h) (ho : mkO S L own l0 b = some (.row e' ei.size es)) (hd : Nat.blt d n = true) (hb : 0 ≤ l ∧ l ≤ h ∧ h ≤ len ∧ (l = 0 ∨ l < len)) (e1 : off + l.toNat = off' ∧ h.toNat - l.toNat = len')
    (hk : aops P T ops rest Q (St L n ((d, .a (.s (.sl l0 b off' len'))) :: tm) S own)) :
    aop1 P T ops rest Q ⟨some d, .slice t x lo hi none, ty, pos, af, g⟩ (St L n tm S own) := by
  obtain ⟨rfl, rfl⟩ := e1
  simp only [aop1, x1]
  refine .inl ⟨rfl, ?_⟩
  obtain ⟨ti, q1, q2, q3⟩ := sliceT_ok ht
  rw [evF_ok hx]
  refine ⟨ti, q1, ?_⟩
  rw [q2]
  exact boundF_ok hl (boundF_ok hh ⟨⟨ei, q3, e', es, ho⟩, hb.1, hb.2.1, hb.2.2.1, hb.2.2.2, put_some hd hk⟩)
theorem st_max {dst : Tmp} {x y : Operand} {t t2 : TypeId} {a b : Int} (hx : evF tm x = some (int a)) (hy : evF tm y = some (int b)) (hd : Nat.blt dst n = true) (hk : aops P T ops rest Q (St L n ((dst, int (if b > a then b else a)) :: tm) S own)) :
    aop1 P T ops rest Q ⟨some dst, .call ⟨.builtin .max, #[x, y], #[t, t2]⟩, ty, pos, af, g⟩ (St L n tm S own) := by
  simp only [aop1, x1]
  show qMinMax true [(St L n tm S own).ev x, (St L n tm S own).ev y] (fun v => (St L n tm S own).put (some dst) v (aops P T ops rest Q))
  rw [evF_ok hx, evF_ok hy]
  exact put_some hd hk
theorem d_add {fuel : Nat} {listed : Array Bool} (i : Nat) {d : Tmp} {t t2 : TypeId} {x y : Operand} {ty : TypeId} {pos : String} {af : Array Edge} {a b : Int} {Q : ASt → Prop} (ho : ops[i]? = some ⟨some d, .binOp .add t x y t2, ty, pos, af, none⟩)
    (hs : Region.noSelect ops.toArray = true) (hf : Region.free .any ops.toArray listed i = true) (hr : (Region.ready .any ops.toArray listed).contains i = true) (hx : evF tm x = some (int a)) (hy : evF tm y = some (int b)) (hd : Nat.blt d n = true)
    (h1 : -9223372036854775808 ≤ a + b ∧ a + b ≤ 9223372036854775807)
    (h : dany P T false ops fuel (listed.setIfInBounds i true) Q (St L n ((d, int (a + b)) :: tm) S own)) : dany P T false ops (fuel + 1) listed Q (St L n tm S own) := by
  refine .inr (.inl ⟨rfl, i, _, ho, rfl, hs, hf, hr, ?_⟩)
  show xq P T (St L n tm S own) (.binOp .add t x y t2) fun v => (St L n tm S own).put (some d) v (dany P T false ops fuel (listed.setIfInBounds i true) Q)
  show qBin P .add t ((St L n tm S own).ev x) ((St L n tm S own).ev y) _
  rw [evF_ok hx, evF_ok hy]
  have := wrap_id h1.1 h1.2
  refine ⟨.inl rfl, ?_⟩
  show (St L n tm S own).put (some d) (lit (.int .i64 (IntKind.i64.wrap (a + b)))) _
  rw [this]
  exact put_some hd h
def AllR (P : Program) (T : TypeId → Option TI) (rd : Bool) (ops : List Oper) (fuel : Nat) (listed : Array Bool) (Q : ASt → Prop) (st : ASt) : List Nat → Prop
  | [] => True
  | i :: r => (∃ o, ops[i]? = some o ∧ wantK ops st o (fun st => x1 P T st (o.dst.getD st.n) o.op fun v st' => st'.put o.dst v (dany P T rd ops fuel (listed.setIfInBounds i true) Q)) (fun st => st.put o.dst (.tup []) (dany P T rd ops fuel (listed.setIfInBounds i true) Q))) ∧
      AllR P T rd ops fuel listed Q st r
theorem allR_mem {rd : Bool} {fuel : Nat} {listed : Array Bool} {Q : ASt → Prop} {st : ASt} : ∀ {rs : List Nat}, AllR P T rd ops fuel listed Q st rs → ∀ i ∈ rs, ∃ o, ops[i]? = some o ∧ wantK ops st o (fun st => x1 P T st (o.dst.getD st.n) o.op fun v st' => st'.put o.dst v (dany P T rd ops fuel (listed.setIfInBounds i true) Q)) (fun st => st.put o.dst (.tup []) (dany P T rd ops fuel (listed.setIfInBounds i true) Q))
  | [], _, i, hi => by cases hi
  | j :: r, h, i, hi => by
    rcases List.mem_cons.1 hi with rfl | hi
    · exact h.1
    · exact allR_mem h.2 i hi
theorem d_rs {rd : Bool} {fuel : Nat} {listed : Array Bool} {Q : ASt → Prop} {st : ASt} (rs : List Nat) (hr : Region.ready .any ops.toArray listed = rs) (hne : rs.isEmpty = false) (h : AllR P T rd ops fuel listed Q st rs) : dany P T rd ops (fuel + 1) listed Q st :=
  .inr (.inr ⟨rs, hr, by rintro rfl; simp at hne, allR_mem h⟩)
theorem allR_nil {rd : Bool} {fuel : Nat} {listed : Array Bool} {Q : ASt → Prop} {st : ASt} : AllR P T rd ops fuel listed Q st [] := trivial
theorem allR_cons {rd : Bool} {fuel : Nat} {listed : Array Bool} {Q : ASt → Prop} {st : ASt} {i : Nat} {r : List Nat} {dst : Option Tmp} {op : Op} {ty : TypeId} {pos : String} {af : Array Edge} (ho : ops[i]? = some ⟨dst, op, ty, pos, af, none⟩)
    (h1 : aop1 P T ops [] (dany P T rd ops fuel (listed.setIfInBounds i true) Q) ⟨dst, op, ty, pos, af, none⟩ st) (h2 : AllR P T rd ops fuel listed Q st r) : AllR P T rd ops fuel listed Q st (i :: r) :=
  ⟨⟨_, ho, h1⟩, h2⟩
theorem st_callNO {fop : Operand} {xs : List Operand} {ts : Array TypeId} {f : FuncId} {avs : List AV} {R : RV → Store → Prop} (ho : alook own d = none) (hf : evF tm fop = some (.a (.s (.clo f [])))) (hx : argsN tm xs = some avs)
    (hd : Nat.blt d n = true) (hA : AC P (L + 1) f avs (mkO S L own) R)
    (hk : ∀ r S', R r S' → (∃ tv own', r = .val tv ∧ S' = mkO S L own' ∧ aops P T ops rest Q (St L n ((d, tv) :: tm) S own')) ∨
      ∃ e esz es, r = .own e esz es ∧ S' = mkO S L own ∧ aops P T ops rest Q (St L n ((d, .a (.s (.sl L d 0 es.length))) :: tm) S ((d, .row e esz es) :: own))) :
    aop1 P T ops rest Q ⟨some d, .call ⟨.value fop, xs.toArray, ts⟩, ty, pos, af, g⟩ (St L n tm S own) := by
  simp only [aop1, x1, Option.getD_some]
  refine .inl (.inr ?_)
  unfold acallAt
  rw [drop_St ho, evF_ok hf]
  refine ⟨avs, R, argsN_ok xs hx, by rw [List.map_nil, List.append_nil]; exact hA, fun r S' hr => ?_⟩
  rcases hk r S' hr with ⟨tv, own', rfl, rfl, h⟩ | ⟨e, esz, es, rfl, rfl, h⟩
  · exact .inl ⟨Nat.le_of_ble_eq_true hd, h⟩
  · refine ⟨(mkO_own _ _ _ _).trans ho, .inl ⟨Nat.le_of_ble_eq_true hd, ?_⟩⟩
    show aops P T ops rest Q ⟨L, n, _, upd (mkO S L own) L d _⟩
    rw [mkO_upd]
    exact h
theorem d_takeQ (hT : TOk P T) {fuel : Nat} {listed : Array Bool} {Q : ASt → Prop} (i : Nat) {d : Tmp} {op : Op} {ty : TypeId} {pos : String} {af : Array Edge} {v : TV} (hr : (Region.ready .any ops.toArray listed).contains i = true) (ho : ops[i]? = some ⟨some d, op, ty, pos, af, none⟩) (hl : isLoad op = false) (hq : isQ ⟨some d, op, ty, pos, af, none⟩ = true) (hnn : noNan T ⟨some d, op, ty, pos, af, none⟩ = true)
    (hf : Region.free .any ops.toArray listed i = true) (hs : Region.noSelect ops.toArray = true) (hv : xqf T tm op = some v) (hd : Nat.blt d n = true)
    (h : dany P T false ops fuel (listed.setIfInBounds i true) Q (St L n ((d, v) :: tm) S own)) : dany P T false ops (fuel + 1) listed Q (St L n tm S own) :=
  d_take hT i ho hl hq hnn hs hf hr hv hd h
def NewsA (O : Store) (v : TV) (e : TypeId) (sz : Nat) (news : List (List PV)) : Prop := ∀ F : List (List PV) → Prop, F news → newsOf O v e sz F
theorem NewsA.row {O : Store} {e : TypeId} {sz : Nat} {es : List (List PV)} : NewsA O (row sz es) e sz es := fun _ hF => ⟨rfl, hF⟩
theorem NewsA.sl {O : Store} {e : TypeId} {sz l b off m : Nat} {es : List (List PV)} (ho : O l b = some (.row e sz es)) : NewsA O (.a (.s (.sl l b off m))) e sz ((es.drop off).take m) := fun _ hF => ⟨es, ho, hF⟩
theorem st_append0A {t e : TypeId} {s x : Operand} {ei : TI} {vx : TV} {p : List PV} {r : List (List PV)} (ho : alook own d = none) (ht : sliceT T t = some (e, ei)) (hz : Nat.blt 0 ei.size = true) (hs : evF tm s = some nilS) (hx : evF tm x = some vx) (hn : NewsA (mkO S L own) vx e ei.size (p :: r))
    (hb : (p :: r).length * ei.bytes ≤ 140737488355328 ∧ (p :: r).length ≤ maxLen) (hd : Nat.blt d n = true)
    (hk : aops P T ops rest Q (St L n ((d, .a (.s (.sl L d 0 (p :: r).length))) :: tm) S ((d, .row e ei.size (p :: r)) :: own))) :
    aop1 P T ops rest Q ⟨some d, .call ⟨.builtin .append, #[s, x], #[t, t]⟩, ty, pos, af, g⟩ (St L n tm S own) := by
  simp only [aop1, x1]
  refine .inl ⟨rfl, .inl ?_⟩
  show eAppend T (St L n tm S own) d t s x _
  obtain ⟨ti, q1, q2, q3⟩ := sliceT_ok ht
  refine ⟨ti, e, ei, q1, q2, q3, Nat.le_of_ble_eq_true hz, ?_⟩
  rw [evF_ok hx]
  refine hn _ ?_
  rw [evF_ok hs]
  refine ⟨hb.1, hb.2, ?_⟩
  rw [drop_St ho]
  refine .inl (.inl ?_)
  show ASt.put ⟨L, n, tm, upd (mkO S L own) L d _⟩ (some d) _ _
  rw [mkO_upd]
  exact put_some hd hk
theorem st_slnil {t e : TypeId} {ei : TI} {x : Operand} {lo hi : Option Operand} (hx : evF tm x = some nilS) (ht : sliceT T t = some (e, ei)) (hl : boundF tm lo 0 = some 0) (hh : boundF tm hi 0 = some 0) (hd : Nat.blt d n = true)
    (hk : aops P T ops rest Q (St L n ((d, nilS) :: tm) S own)) : aop1 P T ops rest Q ⟨some d, .slice t x lo hi none, ty, pos, af, g⟩ (St L n tm S own) := by
  simp only [aop1, x1]
  refine .inl ⟨rfl, ?_⟩
  obtain ⟨ti, q1, q2, q3⟩ := sliceT_ok ht
  rw [evF_ok hx]
  refine ⟨ti, q1, ?_⟩
  rw [q2]
  exact boundF_ok hl (boundF_ok hh ⟨rfl, rfl, ⟨ei, q3⟩, put_some hd hk⟩)
theorem acq {Q : ASt → Prop} {dst : Option Tmp} {fop : Operand} {xs : Array Operand} {ts : Array TypeId} {f : FuncId} {avs : List AV} {u : Value} {rest : List Oper} (hf : evF tm fop = some (.a (.s (.clo f [])))) (hx : argsN tm xs.toList = some avs) (hp : avs.all pureA = true)
    (hA : ACv P f avs fun v => v = lit u) (hu : u.oneCell' = true) (hk : (St L n tm S own).put dst (lit u) (qops P T ops rest Q)) :
    acallQ P (St L n tm S own) (.call ⟨.value fop, xs, ts⟩) (fun v => (St L n tm S own).put dst v (qops P T ops rest Q)) :=
  ⟨f, avs, u, evF_ok hf, argsN_ok _ hx, hp, ⟨1, (hA 1 (fun _ _ => none) (by decide)).mono (by rintro r S' ⟨rfl, v, rfl, rfl⟩; exact ⟨rfl, rfl⟩)⟩, hu, hk⟩
end
end Go.Rd
namespace Go.Rd
open Go.RowKit Go.Proofs
def tlook : List (Nat × TI) → Nat → Option TI
  | [], _ => none
  | (k, i) :: r, t => match Nat.beq t k with
    | true => some i
    | false => tlook r t
theorem tok_nil {P : Program} : TOk P (tlook []) := fun _ _ h => by cases h
theorem tok_cons {P : Program} {k : Nat} {i : TI} {r : List (Nat × TI)} (h : i.ok P k) (hr : TOk P (tlook r)) : TOk P (tlook ((k, i) :: r)) := by
  intro t j hj
  have hj : (match Nat.beq t k with | true => some i | false => tlook r t) = some j := hj
  cases hb : Nat.beq t k with
  | true =>
    rw [hb] at hj
    have e : i = j := Option.some.inj hj
    have := Nat.eq_of_beq_eq_true hb
    subst this
    rw [← e]
    exact h
  | false => rw [hb] at hj; exact hr t j hj
theorem ti_ok {P : Program} {t : TypeId} {d : TD} {agg : Bool} {size bytes : Nat} {zero : List Value} (hi : (P.info? t).map (fun i => (i.zero, i.size, i.bytes)) = some (some (if agg then .agg zero.toArray else zero.headD undef), size, bytes))
    (hz : zero.length = size) (ho : zero.all (·.oneCell') = true) (hd : d.ok P t agg) (hs : agg = false → size = 1) : TI.ok P t ⟨d, agg, size, bytes, zero⟩ := by
  refine ⟨?_, hz, ho, hd, hs⟩
  cases h : P.info? t with
  | none => rw [h] at hi; cases hi
  | some inf =>
    rw [h] at hi
    simp only [Option.map_some, Option.some.injEq, Prod.mk.injEq] at hi
    exact ⟨inf, rfl, hi.2.1, hi.2.2, hi.1⟩
def structOf (P : Program) (t : TypeId) : Option (List (Nat × TypeId)) := match P.underlying t with
  | some (.struct f) => some (f.toList.map fun x => (x.offset, x.type))
  | _ => none
theorem struct_ok {P : Program} {t : TypeId} {fs : List (Nat × TypeId)} (h : structOf P t = some fs) : (TD.struct fs).ok P t true := by
  unfold structOf at h
  split at h
  · rename_i f hf
    simp only [Option.some.injEq] at h
    exact ⟨⟨f, hf, h⟩, rfl⟩
  · cases h
def isOther (P : Program) (t : TypeId) : Bool := match P.underlying t with
  | some (.struct _) => false
  | some (.array _ _) => false
  | some _ => true
  | none => false
theorem other_ok {P : Program} {t : TypeId} (h : isOther P t = true) : TD.other.ok P t false := by
  unfold isOther at h
  cases hd : P.underlying t with
  | none => rw [hd] at h; cases h
  | some d =>
    rw [hd] at h
    refine ⟨⟨d, hd, ?_⟩, rfl⟩
    cases d <;> first | rfl | cases h
section
variable {P : Program} {d : Nat} {xs ys : Array Value} {f : Field} {fs : List Field} {a b : Value} {r s : Bool} {w : World}
theorem eqfs_cons (hn : (f.name == "_") = false) (ha : (part f.type xs f.offset).run P w = .ok a w) (hb : (part f.type ys f.offset).run P w = .ok b w) (he : (Op.equalIn d f.type a b).run P w = .ok r w) (hr : (Op.eqFields d xs ys fs).run P w = .ok s w) :
    (Op.eqFields d xs ys (f :: fs)).run P w = .ok (r && s) w := by
  have hn' : f.name ≠ "_" := by simpa using hn
  rw [Op.eqFields]
  simp only [if_pos hn', Sem.run_bind, ha, hb, he, Result.andThen_ok]
  cases r
  · simp
  · simpa using hr
theorem eqfs_nil : (Op.eqFields d xs ys []).run P w = .ok true w := by simp [Op.eqFields]
theorem eqAt_of {t : TypeId} {fs : Array Field} {us vs : List Value} (hu : P.underlying t = some (.struct fs)) (hp : P.stoodInHeld t = false) (hg : P.eqGuardType P.depth t = false)
    (h : ∀ w, (Op.eqFields 9999 us.toArray vs.toArray fs.toList).run P w = .ok r w) : EqAt P t us vs r := by
  refine ⟨hg, fun w => ?_⟩
  have hf : P.fieldsOf t = fs := by simp [Program.fieldsOf, hu]
  rw [run_equalIn_struct (P := P) w 9999 t us.toArray vs.toArray (by rw [hf]; exact hu) hp, hf]
  exact h w
end
end Go.Rd
