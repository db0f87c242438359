/- RD, part 16: steps: one lemma for each kind of operation, over states in normal form; each asks for an evaluation by 'rfl'. -/
import Derived.Test.YtiollkejojdplaaRdFun
namespace Go.Rd
open Go.RowKit Go.Proofs

/-! ### states in normal form -/
def alook : List (Nat × AObj) → Nat → Option AObj
  | [], _ => none
  | (k, o) :: r, b => match Nat.beq b k with
    | true => some o
    | false => alook r b
def mkO (S : Store) (L : Nat) (own : List (Nat × AObj)) : Store := fun l b => if l = L then alook own b else S l b
def St (L n : Nat) (tm : List (Nat × TV)) (S : Store) (own : List (Nat × AObj)) : ASt := ⟨L, n, tm, mkO S L own⟩

theorem mkO_nil {S : Store} {L : Nat} (h : Sup S L) : mkO S L [] = S := by
  funext l b
  unfold mkO
  split
  · rename_i e; subst e; rw [h l b (Nat.le_refl _)]; rfl
  · rfl
theorem mkO_own (S : Store) (L : Nat) (own : List (Nat × AObj)) (b : Nat) : mkO S L own L b = alook own b := by simp [mkO]
theorem mkO_low (S : Store) {L l : Nat} (own : List (Nat × AObj)) (b : Nat) (h : l < L) : mkO S L own l b = S l b := by
  unfold mkO; rw [if_neg (by omega)]
theorem mkO_upd (S : Store) (L : Nat) (own : List (Nat × AObj)) (b : Nat) (o : AObj) : upd (mkO S L own) L b (some o) = mkO S L ((b, o) :: own) := by
  funext l c
  by_cases hl : l = L
  · subst hl
    rw [mkO_own]
    simp only [upd, alook]
    by_cases hc : c = b
    · subst hc; simp
    · have : Nat.beq c b = false := by
        cases h : Nat.beq c b with
        | false => rfl
        | true => exact absurd (Nat.eq_of_beq_eq_true h) hc
      rw [if_neg (by simp [hc]), this, mkO_own]
  · rw [upd_ne _ _ (by simp [hl])]
    simp [mkO, hl]
theorem mkO_updlow (S : Store) {L l : Nat} (own : List (Nat × AObj)) (b : Nat) (o : Option AObj) (h : l < L) : upd (mkO S L own) l b o = mkO (upd S l b o) L own := by
  funext l' c
  by_cases hl : l' = L
  · subst hl; rw [upd_ne _ _ (by omega), mkO_own, mkO_own]
  · simp only [mkO, if_neg hl, upd]
theorem cut_mkO {S : Store} {L : Nat} (h : Sup S L) (own : List (Nat × AObj)) : cut (mkO S L own) L = S := by
  funext l b
  unfold cut mkO
  split
  · rw [if_neg (by omega)]
  · rw [h l b (by omega)]

def lk : List (Nat × TV) → Nat → TV
  | [], _ => .undef
  | (k, v) :: r, t => match Nat.beq t k with
    | true => v
    | false => lk r t
theorem lk_eq : ∀ (tm : List (Nat × TV)) (t : Nat), look tm t = lk tm t
  | [], _ => rfl
  | (k, v) :: r, t => by
    unfold look lk
    cases h : Nat.beq t k with
    | true => rw [if_pos (Nat.eq_of_beq_eq_true h)]
    | false => rw [if_neg (fun e => by subst e; simp at h), lk_eq r t]

/-! ### evaluation that forces -/
def forceS : SV → Option SV
  | .undef => some .undef
  | .pv (.lit v) => some (.pv (.lit v))
  | .pv (.row e es) => some (.pv (.row e es))
  | .pv (.clo f cs) => some (.pv (.clo f cs))
  | .pb l b j => some (.pb l b j)
  | .pr l b i j => some (.pr l b i j)
  | .sl l b off len => some (.sl l b off len)
  | .slc l b off len cap => some (.slc l b off len cap)
  | .clo f caps => some (.clo f caps)
def forceL : List SV → Option (List SV)
  | [] => some []
  | x :: r => match forceS x with
    | some y => match forceL r with
      | some r' => some (y :: r')
      | none => none
    | none => none
def forceA : AV → Option AV
  | .s x => match forceS x with
    | some y => some (.s y)
    | none => none
  | .agg xs => match forceL xs with
    | some ys => some (.agg ys)
    | none => none
  | .pel e es i j => some (.pel e es i j)
def forceAs : List AV → Option (List AV)
  | [] => some []
  | x :: r => match forceA x with
    | some y => match forceAs r with
      | some r' => some (y :: r')
      | none => none
    | none => none
def force : TV → Option TV
  | .undef => some .undef
  | .a x => match forceA x with
    | some y => some (.a y)
    | none => none
  | .tup xs => match forceAs xs with
    | some ys => some (.tup ys)
    | none => none
theorem forceS_eq (x : SV) : forceS x = some x := by
  unfold forceS; split <;> rfl
theorem forceL_eq : ∀ (xs : List SV), forceL xs = some xs
  | [] => rfl
  | x :: r => by unfold forceL; rw [forceS_eq, forceL_eq r]
theorem forceA_eq (x : AV) : forceA x = some x := by
  cases x with
  | s x => simp [forceA, forceS_eq]
  | agg xs => simp [forceA, forceL_eq]
  | pel => rfl
theorem forceAs_eq : ∀ (xs : List AV), forceAs xs = some xs
  | [] => rfl
  | x :: r => by unfold forceAs; rw [forceA_eq, forceAs_eq r]
theorem force_eq (x : TV) : force x = some x := by
  cases x with
  | undef => rfl
  | a x => simp [force, forceA_eq]
  | tup xs => simp [force, forceAs_eq]

def evF (tm : List (Nat × TV)) : Operand → Option TV
  | .tmp t => force (lk tm t)
  | .const v => force (constA v)
  | .func f => some (.a (.s (.clo f [])))
  | .global _ => none

section
variable {L n : Nat} {tm : List (Nat × TV)} {S : Store} {own : List (Nat × AObj)}
theorem St_get (t : Nat) : (St L n tm S own).get t = lk tm t := lk_eq tm t
theorem evF_ok {x : Operand} {v : TV} (h : evF tm x = some v) : (St L n tm S own).ev x = v := by
  cases x with
  | tmp t => simp only [evF, force_eq, Option.some.injEq] at h; rw [← h]; exact St_get t
  | const c => simp only [evF, force_eq, Option.some.injEq] at h; exact h
  | func f => simp only [evF, Option.some.injEq] at h; exact h
  | global g => simp [evF] at h
end

def binF (op : BinOp) (k : IntKind) (a b : Int) : Option TV :=
  match op with
  | .add => some (lit (.int k (k.wrap (a + b))))
  | .sub => some (lit (.int k (k.wrap (a - b))))
  | .mul => some (lit (.int k (k.wrap (a * b))))
  | .and => some (lit (.int k (bits .and k a b)))
  | .or => some (lit (.int k (bits .or k a b)))
  | .xor => some (lit (.int k (bits .xor k a b)))
  | .andNot => some (lit (.int k (bits .andNot k a b)))
  | .eql => some (bool (decide (a = b)))
  | .neq => some (bool (!decide (a = b)))
  | .lss => some (bool (decide (a < b)))
  | .leq => some (bool (decide (a ≤ b)))
  | .gtr => some (bool (decide (b < a)))
  | .geq => some (bool (decide (b ≤ a)))
  | _ => none
theorem binF_ok {op : BinOp} {k : IntKind} {a b : Int} {v : TV} {K : TV → Prop} (h : binF op k a b = some v) (hk : K v) : intOp op k a b K := by
  cases op <;> simp_all [binF, intOp]

def sameKind : IntKind → IntKind → Bool := fun a b => decide (a = b)

def cellsF (ti : TI) (cs : List SV) (j : Nat) : Option TV :=
  match ti.agg with
  | true => match Nat.ble (j + ti.size) cs.length with
    | true => force (.a (.agg ((cs.drop j).take ti.size)))
    | false => none
  | false => match cs[j]? with
    | some s => force (.a (.s s))
    | none => none
theorem cellsF_ok {ti : TI} {cs : List SV} {j : Nat} {v : TV} {K : TV → Prop} (h : cellsF ti cs j = some v) (hk : K v) : cellsK ti cs j K := by
  unfold cellsF at h
  unfold cellsK
  cases hg : ti.agg with
  | true =>
    simp only [hg] at h
    split at h
    · rename_i hb
      rw [force_eq] at h
      simp only [Option.some.injEq] at h
      exact ⟨Nat.le_of_ble_eq_true hb, by rw [h]; exact hk⟩
    · cases h
  | false =>
    simp only [hg] at h
    split at h
    · rename_i s hs
      rw [force_eq] at h
      simp only [Option.some.injEq] at h
      exact ⟨s, hs, by rw [h]; exact hk⟩
    · cases h

def fieldF (T : TypeId → Option TI) (s : TypeId) (f : Nat) : Option (Nat × TypeId × TI) :=
  match T s with
  | some ti => match ti.d with
    | .struct fs => match fs[f]? with
      | some (off, ft) => match T ft with
        | some fi => some (off, ft, fi)
        | none => none
      | none => none
    | _ => none
  | none => none
theorem fieldF_ok {T : TypeId → Option TI} {s : TypeId} {f off : Nat} {ft : TypeId} {fi : TI} (h : fieldF T s f = some (off, ft, fi)) :
    ∃ ti fs, T s = some ti ∧ ti.d = .struct fs ∧ fs[f]? = some (off, ft) ∧ T ft = some fi := by
  unfold fieldF at h
  split at h
  · rename_i ti hti
    split at h
    · rename_i fs hfs
      split at h
      · rename_i off' ft' hf
        split at h
        · rename_i fi' hfi
          simp only [Option.some.injEq, Prod.mk.injEq] at h
          obtain ⟨rfl, rfl, rfl⟩ := h
          exact ⟨ti, fs, hti, hfs, hf, hfi⟩
        · cases h
      · cases h
    · cases h
  · cases h

def fillF (T : TypeId → Option TI) (fs : List (Nat × TypeId)) (tm : List (Nat × TV)) : List SV → List (Nat × Operand) → Option (List SV)
  | cs, [] => some cs
  | cs, (i, x) :: r => match fs[i]? with
    | some (off, ft) => match T ft with
      | some fi => match Nat.ble (off + fi.size) cs.length with
        | true => match evF tm x with
          | some (.a (.s v)) => match Nat.beq fi.size 1 with
            | true => match forceL (lay cs off [v]) with
              | some cs' => fillF T fs tm cs' r
              | none => none
            | false => none
          | some (.a (.agg vs)) => match Nat.beq vs.length fi.size with
            | true => match forceL (lay cs off vs) with
              | some cs' => fillF T fs tm cs' r
              | none => none
            | false => none
          | _ => none
        | false => none
      | none => none
    | none => none

section
variable {P : Program} {T : TypeId → Option TI} {L n : Nat} {tm : List (Nat × TV)} {S : Store} {own : List (Nat × AObj)}
theorem fillF_ok {fs : List (Nat × TypeId)} {K : List SV → Prop} : ∀ (parts : List (Nat × Operand)) {cs v : List SV}, fillF T fs tm cs parts = some v → K v → fillA T fs (St L n tm S own).ev cs parts K
  | [], cs, v, h, hk => by simp only [fillF, Option.some.injEq] at h; subst h; exact hk
  | (i, x) :: r, cs, v, h, hk => by
    unfold fillF at h
    unfold fillA
    split at h
    · rename_i off ft hf
      split at h
      · rename_i fi hfi
        split at h
        · rename_i hb
          refine ⟨off, ft, fi, hf, hfi, Nat.le_of_ble_eq_true hb, ?_⟩
          split at h
          · rename_i w hw
            rw [evF_ok hw]
            split at h
            · rename_i h1
              rw [forceL_eq] at h
              exact ⟨Nat.eq_of_beq_eq_true h1, fillF_ok r h hk⟩
            · cases h
          · rename_i ws hw
            rw [evF_ok hw]
            split at h
            · rename_i h1
              rw [forceL_eq] at h
              exact ⟨Nat.eq_of_beq_eq_true h1, fillF_ok r h hk⟩
            · cases h
          · cases h
        · cases h
      · cases h
    · cases h
end

def boxesF (tm : List (Nat × TV)) : List Operand → Option (List (Nat × Nat))
  | [] => some []
  | x :: r => match evF tm x with
    | some (.a (.s (.pb l b j))) => match Nat.beq j 0 with
      | true => match boxesF tm r with
        | some bs => some ((l, b) :: bs)
        | none => none
      | false => none
    | _ => none

def isBoolT (T : TypeId → Option TI) (t : TypeId) : Bool := match T t with
  | some ti => match ti.d with
    | .bool => true
    | _ => false
  | none => false
theorem isBoolT_ok {P : Program} {T : TypeId → Option TI} (hT : TOk P T) {t : TypeId} (h : isBoolT T t = true) : P.underlying t = some .bool := by
  unfold isBoolT at h
  split at h
  · rename_i ti hti
    split at h
    · rename_i hd
      have := (hT t ti hti).desc
      rw [hd] at this
      exact this.1
    · cases h
  · cases h
def intT (T : TypeId → Option TI) (t : TypeId) : Option IntKind := match T t with
  | some ti => match ti.d with
    | .int k => some k
    | _ => none
  | none => none
theorem intT_ok {P : Program} {T : TypeId → Option TI} (hT : TOk P T) {t : TypeId} {k : IntKind} (h : intT T t = some k) : P.underlying t = some (.int k) := by
  unfold intT at h
  split at h
  · rename_i ti hti
    split at h
    · rename_i k' hd
      have := (hT t ti hti).desc
      rw [hd] at this
      simp only [Option.some.injEq] at h
      subst h
      exact this.1
    · cases h
  · cases h
def sliceT (T : TypeId → Option TI) (t : TypeId) : Option (TypeId × TI) := match T t with
  | some ti => match ti.d with
    | .slice e => match T e with
      | some ei => some (e, ei)
      | none => none
    | _ => none
  | none => none
theorem sliceT_ok {T : TypeId → Option TI} {t e : TypeId} {ei : TI} (h : sliceT T t = some (e, ei)) : ∃ ti, T t = some ti ∧ ti.d = .slice e ∧ T e = some ei := by
  unfold sliceT at h
  split at h
  · rename_i ti hti
    split at h
    · rename_i e' hd
      split at h
      · rename_i ei' hei
        simp only [Option.some.injEq, Prod.mk.injEq] at h
        obtain ⟨rfl, rfl⟩ := h
        exact ⟨ti, hti, hd, hei⟩
      · cases h
    · cases h
  · cases h
theorem sliceT_und {P : Program} {T : TypeId → Option TI} (hT : TOk P T) {t : TypeId} {x : TypeId × TI} (h : sliceT T t = some x) : ∃ e, P.underlying t = some (.slice e) := by
  obtain ⟨e, ei⟩ := x
  obtain ⟨ti, h1, h2, _⟩ := sliceT_ok h
  have := (hT t ti h1).desc
  rw [h2] at this
  exact ⟨e, this.1⟩

def nilF (op : BinOp) (r : Bool) : Option TV := match op with
  | .eql => some (bool r)
  | .neq => some (bool (!r))
  | _ => none
/-- Quiet operations without a side condition. -/
def xqf (T : TypeId → Option TI) (tm : List (Nat × TV)) : Op → Option TV
  | .move x => evF tm x
  | .assign x => evF tm x
  | .pick c x y => match evF tm c with
    | some (.a (.s (.pv (.lit (.bool b))))) => match b with
      | true => evF tm x
      | false => evF tm y
    | _ => none
  | .binOp op t x y _ => match evF tm x with
    | some (.a (.s (.pv (.lit (.int k a))))) => match evF tm y with
      | some (.a (.s (.pv (.lit (.int k' b))))) => match sameKind k k' with
        | true => binF op k a b
        | false => none
      | _ => none
    | some (.a (.s (.pv (.lit (.bool a))))) => match evF tm y with
      | some (.a (.s (.pv (.lit (.bool b))))) => match isBoolT T t with
        | true => match op with
          | .eql => some (bool (a == b))
          | .neq => some (bool (!(a == b)))
          | _ => none
        | false => none
      | _ => none
    | some (.a (.s (.pv (.row _ _)))) => match evF tm y, sliceT T t with
      | some (.a (.s (.pv (.lit (.slice none 0 0))))), some _ => nilF op false
      | _, _ => none
    | some (.a (.s (.sl _ _ _ _))) => match evF tm y, sliceT T t with
      | some (.a (.s (.pv (.lit (.slice none 0 0))))), some _ => nilF op false
      | _, _ => none
    | some (.a (.s (.pv (.lit (.slice none 0 0))))) => match evF tm y, sliceT T t with
      | some (.a (.s (.pv (.lit (.slice none 0 0))))), some _ => nilF op true
      | _, _ => none
    | _ => none
  | .unOp op _ x => match op, evF tm x with
    | .not, some (.a (.s (.pv (.lit (.bool b))))) => some (bool (!b))
    | .neg, some (.a (.s (.pv (.lit (.int k m))))) => some (lit (.int k (k.wrap (-m))))
    | _, _ => none
  | .convert s d x => match evF tm x with
    | some (.a (.s (.pv (.lit (.int _ m))))) => match T s with
      | some _ => match intT T d with
        | some k => some (lit (.int k (k.wrap m)))
        | none => none
      | none => none
    | _ => none
  | .fieldAddr s x f => match fieldF T s f with
    | some (off, _, fi) => match Nat.beq fi.size 0 with
      | false => match evF tm x with
        | some (.a (.s (.pb l b j))) => some (.a (.s (.pb l b (j + off))))
        | some (.a (.s (.pr l b i j))) => some (.a (.s (.pr l b i (j + off))))
        | some (.a (.pel esz es i j)) => some (.a (.pel esz es i (j + off)))
        | _ => none
      | true => none
    | none => none
  | .field s x f => match fieldF T s f with
    | some (off, _, fi) => match evF tm x with
      | some (.a (.agg cs)) => cellsF fi cs off
      | _ => none
    | none => none
  | .extract t ix => match evF tm t with
    | some (.tup xs) => match xs[ix]? with
      | some v => force (.a v)
      | none => none
    | _ => none
  | .makeFunc fn first caps => match fn, first.toList with
    | .func f, [] => match boxesF tm caps.toList with
      | some bs => some (.a (.s (.clo f bs)))
      | none => none
    | _, _ => none
  | .build t parts => match T t with
    | some ti => match ti.d with
      | .struct fs => match fs.all fun p => (T p.2).isSome with
        | true => match forceL (ti.zero.map fun v => .pv (.lit v)) with
          | some cs => match fillF T fs tm cs parts.toList with
            | some cs' => some (.a (.agg cs'))
            | none => none
          | none => none
        | false => none
      | _ => none
    | none => none
  | _ => none

section
variable {P : Program} {T : TypeId → Option TI} {L n : Nat} {tm : List (Nat × TV)} {S : Store} {own : List (Nat × AObj)}
theorem boxesF_ok : ∀ (xs : List Operand) {bs : List (Nat × Nat)}, boxesF tm xs = some bs → boxesOf (xs.map (St L n tm S own).ev) = some bs
  | [], bs, h => by simpa [boxesF, boxesOf] using h
  | x :: r, bs, h => by
    unfold boxesF at h
    split at h
    · rename_i l b j hx
      split at h
      · rename_i hj
        split at h
        · rename_i bs' hb
          simp only [Option.some.injEq] at h
          subst h
          have hj' := Nat.eq_of_beq_eq_true hj
          subst hj'
          simp only [List.map_cons, evF_ok hx, boxesOf, boxesF_ok r hb, Option.map_some]
        · cases h
      · cases h
    · cases h

theorem xqf_ok (hT : TOk P T) {op : Op} {v : TV} {K : TV → ASt → Prop} {d : Nat} (h : xqf T tm op = some v) (hk : K v (St L n tm S own)) : x1 P T (St L n tm S own) d op K := by
  cases op <;> simp only [xqf] at h <;> try (exact absurd h (by simp))
  case move x => simp only [x1]; rw [evF_ok h]; exact hk
  case assign x => simp only [x1]; rw [evF_ok h]; exact hk
  case pick c x y =>
    simp only [x1]
    split at h
    · rename_i b hc
      rw [evF_ok hc]
      split at h
      · rw [evF_ok h]; exact ⟨fun _ => hk, fun e => by cases e⟩
      · rw [evF_ok h]; exact ⟨(fun e => by cases e), fun _ => hk⟩
    · cases h
  case binOp op t x y t2 =>
    simp only [x1]
    split at h
    · rename_i k a hx
      rw [evF_ok hx]
      split at h
      · rename_i k' b hy
        rw [evF_ok hy]
        split at h
        · rename_i hkk
          have := of_decide_eq_true hkk
          subst this
          exact ⟨.inl rfl, binF_ok h hk⟩
        · cases h
      · cases h
    · rename_i a hx
      rw [evF_ok hx]
      split at h
      · rename_i b hy
        rw [evF_ok hy]
        split at h
        · rename_i hb
          refine ⟨isBoolT_ok hT hb, ?_⟩
          split at h
          · simp only [Option.some.injEq] at h; subst h; exact hk
          · simp only [Option.some.injEq] at h; subst h; exact hk
          · cases h
        · cases h
      · cases h
    · rename_i q1 q2 hx
      rw [evF_ok hx]
      split at h
      · rename_i sl hy hs
        rw [evF_ok hy]
        refine ⟨sliceT_und hT hs, ?_⟩
        cases op <;> simp only [nilF] at h <;> first | (cases h; exact hk) | cases h
      · cases h
    · rename_i q1 q2 q3 q4 hx
      rw [evF_ok hx]
      split at h
      · rename_i sl hy hs
        rw [evF_ok hy]
        refine ⟨sliceT_und hT hs, ?_⟩
        cases op <;> simp only [nilF] at h <;> first | (cases h; exact hk) | cases h
      · cases h
    · rename_i hx
      rw [evF_ok hx]
      split at h
      · rename_i sl hy hs
        rw [evF_ok hy]
        refine ⟨sliceT_und hT hs, ?_⟩
        cases op <;> simp only [nilF] at h <;> first | (cases h; exact hk) | cases h
      · cases h
    · cases h
  case unOp op t x =>
    simp only [x1]
    split at h
    · rename_i b hx
      rw [evF_ok hx]
      simp only [Option.some.injEq] at h; subst h; exact hk
    · rename_i k m hx
      rw [evF_ok hx]
      simp only [Option.some.injEq] at h; subst h; exact hk
    · cases h
  case convert s d x =>
    simp only [x1]
    split at h
    · rename_i m _ hx
      rw [evF_ok hx]
      split at h
      · rename_i si hs
        split at h
        · rename_i k hd
          simp only [Option.some.injEq] at h; subst h
          have h1 : (P.underlying s).isSome = true := by
            have := (hT s si hs).desc
            obtain ⟨dd, agg, size, bytes, zero⟩ := si
            cases dd <;> simp only [TD.ok] at this
            case struct => obtain ⟨⟨f, hf, _⟩, _⟩ := this; simp [hf]
            case other => obtain ⟨⟨f, hf, _⟩, _⟩ := this; simp [hf]
            all_goals (simp [this.1])
          exact ⟨h1, k, intT_ok hT hd, hk⟩
        · cases h
      · cases h
    · cases h
  case fieldAddr s x f =>
    simp only [x1]
    split at h
    · rename_i off ft fi hf
      obtain ⟨ti, fs, q1, q2, q3, q4⟩ := fieldF_ok hf
      split at h
      · rename_i hz
        have hz' : fi.size ≠ 0 := fun e => by rw [e] at hz; cases hz
        refine ⟨ti, fs, off, ft, fi, q1, q2, q3, q4, hz', ?_⟩
        split at h
        · rename_i l b j hx
          rw [evF_ok hx]; simp only [Option.some.injEq] at h; subst h; exact hk
        · rename_i l b i j hx
          rw [evF_ok hx]; simp only [Option.some.injEq] at h; subst h; exact hk
        · rename_i esz es i j hx
          rw [evF_ok hx]; simp only [Option.some.injEq] at h; subst h; exact hk
        · cases h
      · cases h
    · cases h
  case field s x f =>
    simp only [x1]
    split at h
    · rename_i off ft fi hf
      obtain ⟨ti, fs, q1, q2, q3, q4⟩ := fieldF_ok hf
      refine ⟨ti, fs, off, ft, fi, q1, q2, q3, q4, ?_⟩
      split at h
      · rename_i cs hx
        rw [evF_ok hx]
        exact cellsF_ok h hk
      · cases h
    · cases h
  case extract t ix =>
    simp only [x1]
    split at h
    · rename_i xs hx
      rw [evF_ok hx]
      split at h
      · rename_i v' hv
        rw [force_eq] at h
        simp only [Option.some.injEq] at h; subst h
        exact ⟨v', hv, hk⟩
      · cases h
    · cases h
  case makeFunc fn first caps =>
    simp only [x1]
    split at h
    · rename_i f hfirst
      split at h
      · rename_i bs hb
        simp only [Option.some.injEq] at h; subst h
        have h0 : first = #[] := by
          obtain ⟨l⟩ := first
          simp only at hfirst
          rw [hfirst]
        exact ⟨h0, bs, boxesF_ok _ hb, hk⟩
      · cases h
    · cases h
  case build t parts =>
    simp only [x1]
    split at h
    · rename_i ti hti
      split at h
      · rename_i fs hd
        split at h
        · rename_i hall
          rw [forceL_eq] at h
          simp only at h
          split at h
          · rename_i cs' hf
            simp only [Option.some.injEq] at h; subst h
            exact ⟨ti, fs, hti, hd, fun p hp => List.all_eq_true.1 hall p hp, fillF_ok _ hf hk⟩
          · cases h
        · cases h
      · cases h
    · cases h
end
end Go.Rd
