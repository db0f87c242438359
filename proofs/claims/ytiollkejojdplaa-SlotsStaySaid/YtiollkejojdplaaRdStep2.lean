/- RD, part 17: steps of regions and of code. -/
import Derived.Test.YtiollkejojdplaaRdStep
namespace Go.Rd
open Go.RowKit Go.Proofs

/-- One operation, with what follows. -/
def aop1 (P : Program) (T : TypeId → Option TI) (ops rest : List Oper) (Q : ASt → Prop) (o : Oper) (st : ASt) : Prop :=
  x1 P T st (o.dst.getD st.n) o.op fun v st' => st'.put o.dst v (aops P T ops rest Q)

/-- A bool as a proposition. -/
def Bp (b : Bool) (p : Prop) : Prop := b = true ↔ p
theorem Bp.dec {p : Prop} [h : Decidable p] : Bp (decide p) p := decide_eq_true_iff
theorem Bp.not {b : Bool} {p : Prop} (h : Bp b p) : Bp (!b) (¬ p) := by unfold Bp at *; rw [← h]; cases b <;> simp
theorem Bp.and {a b : Bool} {p q : Prop} (h : Bp a p) (h' : Bp b q) : Bp (a && b) (p ∧ q) := by unfold Bp at *; rw [← h, ← h']; simp
theorem Bp.or {a b : Bool} {p q : Prop} (h : Bp a p) (h' : Bp b q) : Bp (a || b) (p ∨ q) := by unfold Bp at *; rw [← h, ← h']; simp
theorem Bp.bool {b : Bool} : Bp b (b = true) := Iff.rfl

def gvF (tm : List (Nat × TV)) (ops : List Oper) (j : Nat) : Option (Nat × Bool) :=
  match ops[j]? with
  | some o => match o.dst with
    | some t => match lk tm t with
      | .a (.s (.pv (.lit (.bool b)))) => some (t, b)
      | _ => none
    | none => none
  | none => none

def sameB : Bool → Bool → Bool
  | true, true => true
  | false, false => true
  | _, _ => false

section
variable {P : Program} {T : TypeId → Option TI} {L n : Nat} {tm : List (Nat × TV)} {S : Store} {own : List (Nat × AObj)} {ops rest : List Oper} {Q : ASt → Prop}

theorem gvF_ok {j t : Nat} {b : Bool} (h : gvF tm ops j = some (t, b)) : (ops[j]?).bind (·.dst) = some t ∧ (St L n tm S own).get t = bool b := by
  unfold gvF at h
  split at h
  · rename_i o ho
    split at h
    · rename_i t' ht
      split at h
      · rename_i b' hb
        simp only [Option.some.injEq, Prod.mk.injEq] at h
        obtain ⟨rfl, rfl⟩ := h
        exact ⟨by simp [ho, ht], by rw [St_get]; exact hb⟩
      · cases h
    · cases h
  · cases h

theorem want_none {dst : Option Tmp} {op : Op} {ty : TypeId} {pos : String} {af : Array Edge} {st : ASt} (h : aop1 P T ops rest Q ⟨dst, op, ty, pos, af, none⟩ st) :
    aops P T ops (⟨dst, op, ty, pos, af, none⟩ :: rest) Q st := h

theorem want_both {dst : Option Tmp} {op : Op} {ty : TypeId} {pos : String} {af : Array Edge} {j : Nat} {want : Bool} {t : Nat} {b : Bool} (hg : gvF tm ops j = some (t, b)) (ht : Nat.blt t n = true)
    (h1 : b = want → aop1 P T ops rest Q ⟨dst, op, ty, pos, af, some (j, want)⟩ (St L n ((t, bool want) :: tm) S own))
    (h2 : b = !want → (St L n ((t, bool !want) :: tm) S own).put dst (.tup []) (aops P T ops rest Q)) :
    aops P T ops (⟨dst, op, ty, pos, af, some (j, want)⟩ :: rest) Q (St L n tm S own) := by
  obtain ⟨q1, q2⟩ := gvF_ok (L := L) (n := n) (S := S) (own := own) hg
  show wantK ops _ _ _ _
  unfold wantK
  simp only [q1, q2]
  refine ⟨Nat.le_of_ble_eq_true ht, fun hb => ?_, fun hb => ?_⟩
  · subst hb
    cases want with
    | true => exact h1 rfl
    | false => exact h2 rfl
  · subst hb
    cases want with
    | true => exact h2 rfl
    | false => exact h1 rfl

theorem want_run {dst : Option Tmp} {op : Op} {ty : TypeId} {pos : String} {af : Array Edge} {j : Nat} {want : Bool} {t : Nat} (hg : gvF tm ops j = some (t, want)) (ht : Nat.blt t n = true)
    (h1 : aop1 P T ops rest Q ⟨dst, op, ty, pos, af, some (j, want)⟩ (St L n ((t, bool want) :: tm) S own)) :
    aops P T ops (⟨dst, op, ty, pos, af, some (j, want)⟩ :: rest) Q (St L n tm S own) :=
  want_both hg ht (fun _ => h1) (fun e => by cases want <;> cases e)
theorem want_skip {d : Tmp} {op : Op} {ty : TypeId} {pos : String} {af : Array Edge} {j : Nat} {want : Bool} {t : Nat} (hg : gvF tm ops j = some (t, !want)) (ht : Nat.blt t n = true) (hd : Nat.blt d n = true)
    (h1 : aops P T ops rest Q (St L n ((d, .tup []) :: (t, bool !want) :: tm) S own)) :
    aops P T ops (⟨some d, op, ty, pos, af, some (j, want)⟩ :: rest) Q (St L n tm S own) :=
  want_both hg ht (fun e => by cases want <;> cases e) (fun _ => ⟨Nat.le_of_ble_eq_true hd, h1⟩)
theorem want_skipS {op : Op} {ty : TypeId} {pos : String} {af : Array Edge} {j : Nat} {want : Bool} {t : Nat} (hg : gvF tm ops j = some (t, !want)) (ht : Nat.blt t n = true)
    (h1 : aops P T ops rest Q (St L n ((t, bool !want) :: tm) S own)) :
    aops P T ops (⟨none, op, ty, pos, af, some (j, want)⟩ :: rest) Q (St L n tm S own) :=
  want_both hg ht (fun e => by cases want <;> cases e) (fun _ => h1)
theorem want_forkT {d : Tmp} {op : Op} {ty : TypeId} {pos : String} {af : Array Edge} {j : Nat} {t : Nat} {b : Bool} {p : Prop} (hg : gvF tm ops j = some (t, b)) (ht : Nat.blt t n = true) (hd : Nat.blt d n = true) (hb : Bp b p)
    (h1 : p → aop1 P T ops rest Q ⟨some d, op, ty, pos, af, some (j, true)⟩ (St L n ((t, bool true) :: tm) S own))
    (h2 : ¬ p → aops P T ops rest Q (St L n ((d, .tup []) :: (t, bool false) :: tm) S own)) :
    aops P T ops (⟨some d, op, ty, pos, af, some (j, true)⟩ :: rest) Q (St L n tm S own) :=
  want_both hg ht (fun e => h1 (hb.1 e)) (fun e => ⟨Nat.le_of_ble_eq_true hd, h2 fun hp => by rw [hb.2 hp] at e; cases e⟩)
theorem want_forkF {d : Tmp} {op : Op} {ty : TypeId} {pos : String} {af : Array Edge} {j : Nat} {t : Nat} {b : Bool} {p : Prop} (hg : gvF tm ops j = some (t, b)) (ht : Nat.blt t n = true) (hd : Nat.blt d n = true) (hb : Bp b p)
    (h1 : p → aops P T ops rest Q (St L n ((d, .tup []) :: (t, bool true) :: tm) S own))
    (h2 : ¬ p → aop1 P T ops rest Q ⟨some d, op, ty, pos, af, some (j, false)⟩ (St L n ((t, bool false) :: tm) S own)) :
    aops P T ops (⟨some d, op, ty, pos, af, some (j, false)⟩ :: rest) Q (St L n tm S own) :=
  want_both hg ht (fun e => h2 fun hp => by rw [hb.2 hp] at e; cases e) (fun e => ⟨Nat.le_of_ble_eq_true hd, h1 (hb.1 e)⟩)

/-- The operation that the guard goes by was left out itself. -/
def gvU (tm : List (Nat × TV)) (ops : List Oper) (j : Nat) : Option Nat :=
  match ops[j]? with
  | some o => match o.dst with
    | some t => match lk tm t with
      | .tup [] => some t
      | _ => none
    | none => none
  | none => none
theorem want_out {d : Tmp} {op : Op} {ty : TypeId} {pos : String} {af : Array Edge} {j : Nat} {want : Bool} {t : Nat} (hg : gvU tm ops j = some t) (ht : Nat.blt t n = true) (hd : Nat.blt d n = true)
    (h1 : aops P T ops rest Q (St L n ((d, .tup []) :: tm) S own)) : aops P T ops (⟨some d, op, ty, pos, af, some (j, want)⟩ :: rest) Q (St L n tm S own) := by
  have q : (ops[j]?).bind (·.dst) = some t ∧ (St L n tm S own).get t = .tup [] := by
    unfold gvU at hg
    split at hg
    · rename_i o ho
      split at hg
      · rename_i t' ht'
        split at hg
        · rename_i hl
          simp only [Option.some.injEq] at hg
          subst hg
          exact ⟨by simp [ho, ht'], by rw [St_get]; exact hl⟩
        · cases hg
      · cases hg
    · cases hg
  show wantK ops _ _ _ _
  unfold wantK
  simp only [q.1, q.2]
  exact ⟨Nat.le_of_ble_eq_true ht, Nat.le_of_ble_eq_true hd, h1⟩

theorem aops_nil {st : ASt} (h : Q st) : aops P T ops [] Q st := h

/-! ### operations -/
variable {d : Tmp} {ty : TypeId} {pos : String} {af : Array Edge} {g : Option (Nat × Bool)}
theorem put_some {v : TV} {K : ASt → Prop} (hd : Nat.blt d n = true) (h : K (St L n ((d, v) :: tm) S own)) : (St L n tm S own).put (some d) v K := ⟨Nat.le_of_ble_eq_true hd, h⟩

theorem st_q (hT : TOk P T) {op : Op} {v : TV} (h : xqf T tm op = some v) (hd : Nat.blt d n = true) (hk : aops P T ops rest Q (St L n ((d, v) :: tm) S own)) :
    aop1 P T ops rest Q ⟨some d, op, ty, pos, af, g⟩ (St L n tm S own) := xqf_ok hT (K := fun v st' => st'.put (some d) v (aops P T ops rest Q)) h (put_some hd hk)

theorem wrap_id {x : Int} (h1 : -9223372036854775808 ≤ x) (h2 : x ≤ 9223372036854775807) : IntKind.i64.wrap x = x :=
  by rw [IntKind.wrap_i64]; omega

theorem st_add {t t2 : TypeId} {x y : Operand} {a b : Int} (hx : evF tm x = some (int a)) (hy : evF tm y = some (int b)) (hd : Nat.blt d n = true) (h1 : -9223372036854775808 ≤ a + b ∧ a + b ≤ 9223372036854775807)
    (hk : aops P T ops rest Q (St L n ((d, int (a + b)) :: tm) S own)) : aop1 P T ops rest Q ⟨some d, .binOp .add t x y t2, ty, pos, af, g⟩ (St L n tm S own) := by
  simp only [aop1, x1, evF_ok hx, evF_ok hy]
  refine ⟨.inl rfl, ?_⟩
  show (St L n tm S own).put (some d) (lit (.int .i64 (IntKind.i64.wrap (a + b)))) _
  rw [wrap_id h1.1 h1.2]
  exact put_some hd hk
theorem st_sub {t t2 : TypeId} {x y : Operand} {a b : Int} (hx : evF tm x = some (int a)) (hy : evF tm y = some (int b)) (hd : Nat.blt d n = true) (h1 : -9223372036854775808 ≤ a - b ∧ a - b ≤ 9223372036854775807)
    (hk : aops P T ops rest Q (St L n ((d, int (a - b)) :: tm) S own)) : aop1 P T ops rest Q ⟨some d, .binOp .sub t x y t2, ty, pos, af, g⟩ (St L n tm S own) := by
  simp only [aop1, x1, evF_ok hx, evF_ok hy]
  refine ⟨.inl rfl, ?_⟩
  show (St L n tm S own).put (some d) (lit (.int .i64 (IntKind.i64.wrap (a - b)))) _
  rw [wrap_id h1.1 h1.2]
  exact put_some hd hk

/-- Two structs compared. -/
theorem st_eqagg {t t2 : TypeId} {x y : Operand} {xs ys : List SV} {us vs : List Value} {r : Bool} (hx : evF tm x = some (.a (.agg xs))) (hy : evF tm y = some (.a (.agg ys))) (h1 : lits xs = some us) (h2 : lits ys = some vs) (hd : Nat.blt d n = true) (he : EqAt P t us vs r)
    (hk : aops P T ops rest Q (St L n ((d, bool r) :: tm) S own)) : aop1 P T ops rest Q ⟨some d, .binOp .eql t x y t2, ty, pos, af, g⟩ (St L n tm S own) := by
  simp only [aop1, x1, evF_ok hx, evF_ok hy]
  exact ⟨us, vs, r, h1, h2, he, put_some hd hk⟩
theorem st_neqagg {t t2 : TypeId} {x y : Operand} {xs ys : List SV} {us vs : List Value} {r : Bool} (hx : evF tm x = some (.a (.agg xs))) (hy : evF tm y = some (.a (.agg ys))) (h1 : lits xs = some us) (h2 : lits ys = some vs) (hd : Nat.blt d n = true) (he : EqAt P t us vs r)
    (hk : aops P T ops rest Q (St L n ((d, bool (!r)) :: tm) S own)) : aop1 P T ops rest Q ⟨some d, .binOp .neq t x y t2, ty, pos, af, g⟩ (St L n tm S own) := by
  simp only [aop1, x1, evF_ok hx, evF_ok hy]
  exact ⟨us, vs, r, h1, h2, he, put_some hd hk⟩
theorem drop_none {st : ASt} {b : Nat} (h : st.O st.L b = none) : st.drop b = st := by unfold ASt.drop; rw [h]
theorem drop_St {b : Nat} (h : alook own b = none) : (St L n tm S own).drop b = St L n tm S own := drop_none (by show mkO S L own L b = none; rw [mkO_own]; exact h)

theorem st_alloc {e : TypeId} {ti : TI} {cs : List SV} (ho : alook own d = none) (ht : T e = some ti) (hc : forceL (ti.zero.map fun v => .pv (.lit v)) = some cs) (hd : Nat.blt d n = true)
    (hk : aops P T ops rest Q (St L n ((d, .a (.s (.pb L d 0))) :: tm) S ((d, .box e cs) :: own))) : aop1 P T ops rest Q ⟨some d, .alloc e, ty, pos, af, g⟩ (St L n tm S own) := by
  simp only [aop1, x1]
  refine ⟨ti, ht, ?_⟩
  rw [forceL_eq] at hc
  simp only [Option.some.injEq] at hc
  rw [hc]
  show mkBox ((St L n tm S own).drop d) d e cs _
  rw [drop_St ho]
  unfold mkBox
  show ASt.put ⟨L, n, tm, upd (mkO S L own) L d (some (.box e cs))⟩ (some d) (.a (.s (.pb L d 0))) _
  rw [mkO_upd]
  exact put_some hd hk

def cellsF' (v : TV) : Option (List SV) := match v with
  | .a (.s x) => some [x]
  | .a (.agg xs) => some xs
  | _ => none
theorem st_box {e : TypeId} {x : Operand} {v : TV} {xs : List SV} (ho : alook own d = none) (hx : evF tm x = some v) (hc : cellsOf v = some xs) (hd : Nat.blt d n = true)
    (hk : aops P T ops rest Q (St L n ((d, .a (.s (.pb L d 0))) :: tm) S ((d, .box e xs) :: own))) : aop1 P T ops rest Q ⟨some d, .box e x, ty, pos, af, g⟩ (St L n tm S own) := by
  simp only [aop1, x1]
  show eBox (St L n tm S own) d e x _
  unfold eBox
  rw [drop_St ho, evF_ok hx]
  refine ⟨xs, hc, ?_⟩
  unfold mkBox
  show ASt.put ⟨L, n, tm, upd (mkO S L own) L d (some (.box e xs))⟩ (some d) (.a (.s (.pb L d 0))) _
  rw [mkO_upd]
  exact put_some hd hk

theorem st_load {t e : TypeId} {x : Operand} {b j : Nat} {cs : List SV} {ti : TI} {v : TV} (hx : evF tm x = some (.a (.s (.pb L b j)))) (ho : alook own b = some (.box e cs)) (ht : T t = some ti)
    (hv : cellsF ti cs j = some v) (hd : Nat.blt d n = true) (hk : aops P T ops rest Q (St L n ((d, v) :: tm) S own)) : aop1 P T ops rest Q ⟨some d, .load t x, ty, pos, af, g⟩ (St L n tm S own) := by
  simp only [aop1, x1, evF_ok hx]
  refine ⟨ti, ht, ?_⟩
  have : (St L n tm S own).O L b = some (.box e cs) := by show mkO S L own L b = _; rw [mkO_own]; exact ho
  simp only [this]
  exact cellsF_ok hv (K := fun v => (St L n tm S own).put (some d) v (aops P T ops rest Q)) (put_some hd hk)

/-- A box of a caller. -/
theorem st_loadlow {t e : TypeId} {x : Operand} {l b j : Nat} {cs : List SV} {ti : TI} {v : TV} (hx : evF tm x = some (.a (.s (.pb l b j)))) (hl : l < L) (ho : S l b = some (.box e cs)) (ht : T t = some ti)
    (hv : cellsF ti cs j = some v) (hd : Nat.blt d n = true) (hk : aops P T ops rest Q (St L n ((d, v) :: tm) S own)) : aop1 P T ops rest Q ⟨some d, .load t x, ty, pos, af, g⟩ (St L n tm S own) := by
  simp only [aop1, x1, evF_ok hx]
  refine ⟨ti, ht, ?_⟩
  have : (St L n tm S own).O l b = some (.box e cs) := by show mkO S L own l b = _; rw [mkO_low _ _ _ hl]; exact ho
  simp only [this]
  exact cellsF_ok hv (K := fun v => (St L n tm S own).put (some d) v (aops P T ops rest Q)) (put_some hd hk)

/-- An element of a row that nobody writes. -/
theorem st_loadpel {α : Type} {enc : α → List PV} {l : List α} {t : TypeId} {x : Operand} {esz i j : Nat} {ti : TI} (hx : evF tm x = some (.a (.pel esz (l.map enc) i j))) (ht : T t = some ti) (hi : i < l.length)
    (hd : Nat.blt d n = true) (hk : ∀ u, l[i]? = some u → ∃ v, cellsF ti ((enc u).map .pv) j = some v ∧ aops P T ops rest Q (St L n ((d, v) :: tm) S own)) :
    aop1 P T ops rest Q ⟨some d, .load t x, ty, pos, af, g⟩ (St L n tm S own) := by
  simp only [aop1, x1, evF_ok hx]
  refine ⟨ti, ht, ?_⟩
  obtain ⟨v, h1, h2⟩ := hk l[i] (List.getElem?_eq_getElem hi)
  exact ⟨enc l[i], by simp [hi], cellsF_ok h1 (K := fun v => (St L n tm S own).put (some d) v (aops P T ops rest Q)) (put_some hd h2)⟩

/-- .. that has a name. -/
theorem st_loadpelK {α : Type} {enc : α → List PV} {l : List α} {u : α} {t : TypeId} {x : Operand} {esz i j : Nat} {ti : TI} {v : TV} (hx : evF tm x = some (.a (.pel esz (l.map enc) i j))) (ht : T t = some ti) (hu : l[i]? = some u)
    (hv : cellsF ti ((enc u).map .pv) j = some v) (hd : Nat.blt d n = true) (hk : aops P T ops rest Q (St L n ((d, v) :: tm) S own)) :
    aop1 P T ops rest Q ⟨some d, .load t x, ty, pos, af, g⟩ (St L n tm S own) :=
  st_loadpel hx ht (List.getElem?_eq_some_iff.1 hu).1 hd fun u' hu' => by
    rw [hu] at hu'
    cases hu'
    exact ⟨v, hv, hk⟩

/-- An element of the call's own row. -/
theorem st_loadpr {α : Type} {enc : α → List PV} {l : List α} {t e : TypeId} {x : Operand} {b esz i j : Nat} {ti : TI} (hx : evF tm x = some (.a (.s (.pr L b i j)))) (ho : alook own b = some (.row e esz (l.map enc))) (ht : T t = some ti) (hi : i < l.length)
    (hd : Nat.blt d n = true) (hk : ∀ u, l[i]? = some u → ∃ v, cellsF ti ((enc u).map .pv) j = some v ∧ aops P T ops rest Q (St L n ((d, v) :: tm) S own)) :
    aop1 P T ops rest Q ⟨some d, .load t x, ty, pos, af, g⟩ (St L n tm S own) := by
  simp only [aop1, x1, evF_ok hx]
  refine ⟨ti, ht, ?_⟩
  have : (St L n tm S own).O L b = some (.row e esz (l.map enc)) := by show mkO S L own L b = _; rw [mkO_own]; exact ho
  simp only [this]
  obtain ⟨v, h1, h2⟩ := hk l[i] (List.getElem?_eq_getElem hi)
  exact ⟨enc l[i], by simp [hi], cellsF_ok h1 (K := fun v => (St L n tm S own).put (some d) v (aops P T ops rest Q)) (put_some hd h2)⟩

def aset : List (Nat × AObj) → Nat → AObj → Option (List (Nat × AObj))
  | [], _, _ => none
  | (k, o) :: r, b, o' => match Nat.beq b k with
    | true => some ((k, o') :: r)
    | false => match aset r b o' with
      | some r' => some ((k, o) :: r')
      | none => none
theorem aset_look : ∀ {own own' : List (Nat × AObj)} {b : Nat} {o : AObj}, aset own b o = some own' → ∀ c, alook own' c = if c = b then some o else alook own c
  | [], own', b, o, h, c => by simp [aset] at h
  | (k, q) :: r, own', b, o, h, c => by
    unfold aset at h
    cases hb : Nat.beq b k with
    | true =>
      simp only [hb, Option.some.injEq] at h
      subst h
      have := Nat.eq_of_beq_eq_true hb
      subst this
      unfold alook
      cases hc : Nat.beq c b with
      | true => rw [if_pos (Nat.eq_of_beq_eq_true hc)]
      | false => rw [if_neg (fun e => by subst e; simp at hc)]
    | false =>
      simp only [hb] at h
      split at h
      · rename_i r' hr
        simp only [Option.some.injEq] at h
        subst h
        have ih := aset_look hr c
        unfold alook
        cases hc : Nat.beq c k with
        | true =>
          have := Nat.eq_of_beq_eq_true hc
          subst this
          rw [if_neg (fun e => by subst e; simp at hb)]
        | false => exact ih
      · cases h
theorem alook_cons (k : Nat) (o : AObj) (r : List (Nat × AObj)) (b : Nat) : alook ((k, o) :: r) b = if b = k then some o else alook r b := by
  show (match Nat.beq b k with | true => some o | false => alook r b) = _
  cases h : Nat.beq b k with
  | true => rw [if_pos (Nat.eq_of_beq_eq_true h)]
  | false => rw [if_neg (fun e => by subst e; simp at h)]
theorem mkO_aset {own' : List (Nat × AObj)} {b : Nat} {o : AObj} (h : aset own b o = some own') : upd (mkO S L own) L b (some o) = mkO S L own' := by
  rw [mkO_upd]
  funext l c
  by_cases hl : l = L
  · subst hl
    rw [mkO_own, mkO_own, aset_look h, alook_cons]
  · simp [mkO, hl]

def layF (ti : TI) (cs : List SV) (j : Nat) (v : TV) : Option (List SV) :=
  match cellsOf v with
  | some xs => match Nat.beq xs.length ti.size with
    | true => match Nat.ble (j + xs.length) cs.length with
      | true => forceL (layG cs j xs)
      | false => none
    | false => none
  | none => none
theorem layF_ok {ti : TI} {cs cs' : List SV} {j : Nat} {v : TV} (h : layF ti cs j v = some cs') : ∃ xs, cellsOf v = some xs ∧ xs.length = ti.size ∧ j + xs.length ≤ cs.length ∧ layG cs j xs = cs' := by
  unfold layF at h
  split at h
  · rename_i xs hx
    split at h
    · rename_i h1
      split at h
      · rename_i h2
        rw [forceL_eq] at h
        simp only [Option.some.injEq] at h
        exact ⟨xs, hx, Nat.eq_of_beq_eq_true h1, Nat.le_of_ble_eq_true h2, h⟩
      · cases h
    · cases h
  · cases h

theorem st_store {t e : TypeId} {x y : Operand} {b j : Nat} {cs cs' : List SV} {ti : TI} {v : TV} {own' : List (Nat × AObj)} (hx : evF tm x = some (.a (.s (.pb L b j)))) (ho : alook own b = some (.box e cs)) (ht : T t = some ti)
    (hy : evF tm y = some v) (hv : layF ti cs j v = some cs') (hs : aset own b (.box e cs') = some own') (hk : aops P T ops rest Q (St L n tm S own')) :
    aop1 P T ops rest Q ⟨none, .store t x y, ty, pos, af, g⟩ (St L n tm S own) := by
  simp only [aop1, x1]
  unfold eStore
  rw [evF_ok hx]
  obtain ⟨xs, q1, q2, q3, q4⟩ := layF_ok hv
  refine ⟨ti, ht, ?_⟩
  have : (St L n tm S own).O L b = some (.box e cs) := by show mkO S L own L b = _; rw [mkO_own]; exact ho
  simp only [this]
  refine ⟨xs, by rw [evF_ok hy]; exact q1, q2, q3, .inl rfl, ?_⟩
  rw [q4]
  show ASt.put ⟨L, n, tm, upd (mkO S L own) L b (some (.box e cs'))⟩ none _ _
  rw [mkO_aset hs]
  exact hk

/-- Into a box of a caller. -/
theorem st_storelow {t e : TypeId} {x y : Operand} {l b j : Nat} {cs cs' : List SV} {ti : TI} {v : TV} (hx : evF tm x = some (.a (.s (.pb l b j)))) (hl : l < L) (ho : S l b = some (.box e cs)) (ht : T t = some ti)
    (hy : evF tm y = some v) (hv : layF ti cs j v = some cs') (hlev : ∀ xs, cellsOf v = some xs → ∀ s ∈ xs, s.lev ≤ l) (hk : aops P T ops rest Q (St L n tm (upd S l b (some (.box e cs'))) own)) :
    aop1 P T ops rest Q ⟨none, .store t x y, ty, pos, af, g⟩ (St L n tm S own) := by
  simp only [aop1, x1]
  unfold eStore
  rw [evF_ok hx]
  obtain ⟨xs, q1, q2, q3, q4⟩ := layF_ok hv
  refine ⟨ti, ht, ?_⟩
  have : (St L n tm S own).O l b = some (.box e cs) := by show mkO S L own l b = _; rw [mkO_low _ _ _ hl]; exact ho
  simp only [this]
  refine ⟨xs, by rw [evF_ok hy]; exact q1, q2, q3, .inr (hlev xs q1), ?_⟩
  rw [q4]
  show ASt.put ⟨L, n, tm, upd (mkO S L own) l b (some (.box e cs'))⟩ none _ _
  rw [mkO_updlow _ _ _ _ hl]
  exact hk

def plainF (v : TV) : Option (List PV) := match cellsOf v with
  | some xs => pvs xs
  | none => none
/-- Into an element of the call's own row: 'es2' is the row behind it. -/
theorem st_storepr {t e : TypeId} {x y : Operand} {b esz i j : Nat} {es es2 : List (List PV)} {z : List PV} {ps : List PV} {ti : TI} {v : TV} {own' : List (Nat × AObj)} (hx : evF tm x = some (.a (.s (.pr L b i j)))) (ho : alook own b = some (.row e esz es)) (ht : T t = some ti)
    (hy : evF tm y = some v) (hp : plainF v = some ps) (hs : Nat.beq ps.length ti.size = true) (hz : es[i]? = some z) (hle : j + ps.length ≤ z.length) (he : es.set i (layG z j ps) = es2) (hs2 : aset own b (.row e esz es2) = some own')
    (hk : aops P T ops rest Q (St L n tm S own')) : aop1 P T ops rest Q ⟨none, .store t x y, ty, pos, af, g⟩ (St L n tm S own) := by
  simp only [aop1, x1]
  unfold eStore
  rw [evF_ok hx]
  refine ⟨ti, ht, ?_⟩
  unfold plainF at hp
  split at hp
  · rename_i xs hc
    have hf : (St L n tm S own).freezeOp y = St L n tm S own := by
      unfold ASt.freezeOp
      rw [evF_ok hy]
      split
      · rename_i l' b' o' n'
        simp only [cellsOf, Option.some.injEq] at hc
        subst hc
        simp [pvs] at hp
      · rfl
    have : (St L n tm S own).O L b = some (.row e esz es) := by show mkO S L own L b = _; rw [mkO_own]; exact ho
    simp only [hf, this]
    refine ⟨xs, ps, z, by rw [evF_ok hy]; exact hc, hp, Nat.eq_of_beq_eq_true hs, hz, hle, ?_⟩
    rw [he]
    show ASt.put ⟨L, n, tm, upd (mkO S L own) L b (some (.row e esz es2))⟩ none _ _
    rw [mkO_aset hs2]
    exact hk
  · cases hp

/-- Into an element of the call's own row, told by its elements. -/
theorem st_storeprU {α : Type} {el : α → List PV} {l : List α} {t e : TypeId} {x y : Operand} {b esz i j : Nat} {ps : List PV} {ti : TI} {v : TV} (hx : evF tm x = some (.a (.s (.pr L b i j)))) (ho : alook own b = some (.row e esz (l.map el))) (ht : T t = some ti)
    (hy : evF tm y = some v) (hp : plainF v = some ps) (hs : Nat.beq ps.length ti.size = true) (hi : i < l.length)
    (hk : ∀ u, l[i]? = some u → ∃ x' own', layG (el u) j ps = el x' ∧ Nat.ble (j + ps.length) (el u).length = true ∧ aset own b (.row e esz ((l.set i x').map el)) = some own' ∧ aops P T ops rest Q (St L n tm S own')) :
    aop1 P T ops rest Q ⟨none, .store t x y, ty, pos, af, g⟩ (St L n tm S own) := by
  obtain ⟨x', own', h1, h2, h3, h4⟩ := hk l[i] (List.getElem?_eq_getElem hi)
  refine st_storepr hx ho ht hy hp hs (z := el l[i]) (by simp [hi]) (Nat.le_of_ble_eq_true h2) ?_ h3 h4
  rw [h1, List.map_set]

/-! ### slices -/
theorem st_len {α : Type} {enc : α → List PV} {l : List α} {t : TypeId} {x : Operand} {esz : Nat} {ei : TypeId × TI} (hT : TOk P T) (hx : evF tm x = some (row esz (l.map enc))) (ht : sliceT T t = some ei) (hd : Nat.blt d n = true)
    (hk : (l.length : Int) ≤ 9223372036854775807 → aops P T ops rest Q (St L n ((d, int l.length) :: tm) S own)) :
    aop1 P T ops rest Q ⟨some d, .call ⟨.builtin .len, #[x], #[t]⟩, ty, pos, af, g⟩ (St L n tm S own) := by
  simp only [aop1, x1]
  show qLen P t ((St L n tm S own).ev x) (fun v => (St L n tm S own).put (some d) v (aops P T ops rest Q))
  rw [evF_ok hx]
  refine ⟨sliceT_und hT ht, fun hm => ?_⟩
  rw [List.length_map] at hm ⊢
  exact put_some hd (hk (by have : maxLen = 9223372036854775807 := rfl; omega))
theorem st_lennil {t : TypeId} {x : Operand} {ei : TypeId × TI} (hT : TOk P T) (hx : evF tm x = some nilS) (ht : sliceT T t = some ei) (hd : Nat.blt d n = true) (hk : aops P T ops rest Q (St L n ((d, int 0) :: tm) S own)) :
    aop1 P T ops rest Q ⟨some d, .call ⟨.builtin .len, #[x], #[t]⟩, ty, pos, af, g⟩ (St L n tm S own) := by
  simp only [aop1, x1]
  show qLen P t ((St L n tm S own).ev x) (fun v => (St L n tm S own).put (some d) v (aops P T ops rest Q))
  rw [evF_ok hx]
  exact ⟨sliceT_und hT ht, put_some hd hk⟩
theorem st_lenown {t : TypeId} {x : Operand} {l b off len : Nat} {ei : TypeId × TI} (hT : TOk P T) (hx : evF tm x = some (.a (.s (.sl l b off len)))) (ht : sliceT T t = some ei) (hd : Nat.blt d n = true)
    (hk : (len : Int) ≤ 9223372036854775807 → aops P T ops rest Q (St L n ((d, int len) :: tm) S own)) :
    aop1 P T ops rest Q ⟨some d, .call ⟨.builtin .len, #[x], #[t]⟩, ty, pos, af, g⟩ (St L n tm S own) := by
  simp only [aop1, x1]
  show qLen P t ((St L n tm S own).ev x) (fun v => (St L n tm S own).put (some d) v (aops P T ops rest Q))
  rw [evF_ok hx]
  exact ⟨sliceT_und hT ht, fun hm => put_some hd (hk (by have : maxLen = 9223372036854775807 := rfl; omega))⟩

theorem st_idx {α : Type} {enc : α → List PV} {l : List α} {t e : TypeId} {x y : Operand} {esz : Nat} {ei : TI} {k : IntKind} {m : Int} (hx : evF tm x = some (row esz (l.map enc))) (hy : evF tm y = some (lit (.int k m))) (ht : sliceT T t = some (e, ei))
    (hz : Nat.beq ei.size esz = true) (hd : Nat.blt d n = true) (h1 : 0 ≤ m ∧ m < l.length) (hk : aops P T ops rest Q (St L n ((d, .a (.pel esz (l.map enc) m.toNat 0)) :: tm) S own)) :
    aop1 P T ops rest Q ⟨some d, .indexAddr t x y, ty, pos, af, g⟩ (St L n tm S own) := by
  simp only [aop1, x1, evF_ok hx, evF_ok hy]
  obtain ⟨ti, q1, q2, q3⟩ := sliceT_ok ht
  refine ⟨ti, q1, ?_⟩
  rw [q2]
  exact ⟨⟨ei, q3, Nat.eq_of_beq_eq_true hz⟩, h1.1, by simpa using h1.2, put_some hd hk⟩
theorem st_idxown {t e e' : TypeId} {x y : Operand} {b len esz : Nat} {es : List (List PV)} {ei : TI} {k : IntKind} {m : Int} (hx : evF tm x = some (.a (.s (.sl L b 0 len)))) (hy : evF tm y = some (lit (.int k m))) (ht : sliceT T t = some (e, ei))
    (ho : alook own b = some (.row e' esz es)) (hz : Nat.beq ei.size esz = true) (hd : Nat.blt d n = true) (h1 : 0 ≤ m ∧ m < len) (hk : aops P T ops rest Q (St L n ((d, .a (.s (.pr L b m.toNat 0))) :: tm) S own)) :
    aop1 P T ops rest Q ⟨some d, .indexAddr t x y, ty, pos, af, g⟩ (St L n tm S own) := by
  simp only [aop1, x1, evF_ok hx, evF_ok hy]
  obtain ⟨ti, q1, q2, q3⟩ := sliceT_ok ht
  refine ⟨ti, q1, ?_⟩
  rw [q2]
  have h0 : (St L n tm S own).O L b = some (.row e' esz es) := by show mkO S L own L b = _; rw [mkO_own]; exact ho
  refine ⟨⟨ei, q3, e', es, by rw [h0, Nat.eq_of_beq_eq_true hz]⟩, h1.1, h1.2, ?_⟩
  rw [Nat.zero_add]
  exact put_some hd hk

theorem st_make {t e : TypeId} {x y : Operand} {ei : TI} {k1 k2 : IntKind} {l c : Int} {es : List (List PV)} (ho : alook own d = none) (hx : evF tm x = some (lit (.int k1 l))) (hy : evF tm y = some (lit (.int k2 c))) (ht : sliceT T t = some (e, ei))
    (hz : Nat.blt 0 ei.size = true) (hd : Nat.blt d n = true) (h1 : 0 ≤ l ∧ l ≤ c ∧ (ei.bytes : Int) * c ≤ 281474976710656 ∧ c ≤ 9223372036854775807) (he : List.replicate l.toNat (ei.zero.map .lit) = es)
    (hk : aops P T ops rest Q (St L n ((d, .a (.s (.sl L d 0 es.length))) :: tm) S ((d, .row e ei.size es) :: own))) : aop1 P T ops rest Q ⟨some d, .makeSlice t x y, ty, pos, af, g⟩ (St L n tm S own) := by
  simp only [aop1, x1]
  show eMake T (St L n tm S own) d t x y _
  unfold eMake
  rw [drop_St ho, evF_ok hx, evF_ok hy]
  obtain ⟨ti, q1, q2, q3⟩ := sliceT_ok ht
  refine ⟨ti, e, ei, q1, q2, q3, Nat.le_of_ble_eq_true hz, h1.1, h1.2.1, h1.2.2.1, h1.2.2.2, ?_⟩
  rw [he]
  refine .inl ?_
  show ASt.put ⟨L, n, tm, upd (mkO S L own) L d (some (.row e ei.size es))⟩ (some d) _ _
  rw [mkO_upd]
  exact put_some hd hk

def elemsF (sz : Nat) (tm : List (Nat × TV)) : Nat → List (Nat × Operand) → Option (List (List PV))
  | _, [] => some []
  | k, (i, x) :: r => match evF tm x with
    | some v => match plainF v with
      | some ps => match Nat.beq i k with
        | true => match Nat.beq ps.length sz with
          | true => match elemsF sz tm (k + 1) r with
            | some es => some (ps :: es)
            | none => none
          | false => none
        | false => none
      | none => none
    | none => none
theorem elemsF_ok {sz : Nat} : ∀ {r : List (Nat × Operand)} {k : Nat} {es : List (List PV)}, elemsF sz tm k r = some es → elemsOf sz (St L n tm S own).ev k r = some es
  | [], k, es, h => h
  | (i, x) :: r, k, es, h => by
    unfold elemsF at h
    split at h
    · rename_i v hv
      split at h
      · rename_i ps hp
        split at h
        · rename_i h1
          split at h
          · rename_i h2
            split at h
            · rename_i es' he
              simp only [Option.some.injEq] at h
              subst h
              unfold plainF at hp
              split at hp
              · rename_i xs hc
                unfold elemsOf
                rw [evF_ok hv, hc]
                simp only [hp, elemsF_ok he]
                rw [if_pos ⟨Nat.eq_of_beq_eq_true h1, Nat.eq_of_beq_eq_true h2⟩]
              · cases hp
            · cases h
          · cases h
        · cases h
      · cases h
    · cases h

theorem st_buildslice {t e : TypeId} {len : Nat} {parts : Array (Nat × Operand)} {ei : TI} {es es2 : List (List PV)} (ho : alook own d = none) (ht : sliceT T t = some (e, ei)) (hz : Nat.blt 0 ei.size = true) (he : elemsF ei.size tm 0 parts.toList = some es)
    (hl : Nat.beq es.length len = true) (hb : Nat.ble (len * ei.size) 16777216 = true) (he2 : es = es2) (hd : Nat.blt d n = true)
    (hk : aops P T ops rest Q (St L n ((d, .a (.s (.sl L d 0 es2.length))) :: tm) S ((d, .row e ei.size es2) :: own))) : aop1 P T ops rest Q ⟨some d, .buildSlice t len parts, ty, pos, af, g⟩ (St L n tm S own) := by
  subst he2
  simp only [aop1, x1]
  show eBuildSlice T (St L n tm S own) d t len parts _
  unfold eBuildSlice
  rw [drop_St ho]
  obtain ⟨ti, q1, q2, q3⟩ := sliceT_ok ht
  refine ⟨ti, e, ei, es, q1, q2, q3, Nat.le_of_ble_eq_true hz, elemsF_ok he, Nat.eq_of_beq_eq_true hl, Nat.le_of_ble_eq_true hb, ?_⟩
  refine .inl ?_
  show ASt.put ⟨L, n, tm, upd (mkO S L own) L d (some (.row e ei.size es))⟩ (some d) _ _
  rw [mkO_upd]
  exact put_some hd hk
/-- .. nobody writing it any more. -/
theorem st_buildsliceP {t e : TypeId} {len : Nat} {parts : Array (Nat × Operand)} {ei : TI} {es es2 : List (List PV)} (ho : alook own d = none) (ht : sliceT T t = some (e, ei)) (hz : Nat.blt 0 ei.size = true) (he : elemsF ei.size tm 0 parts.toList = some es)
    (hl : Nat.beq es.length len = true) (hb : Nat.ble (len * ei.size) 16777216 = true) (he2 : es = es2) (hd : Nat.blt d n = true)
    (hk : aops P T ops rest Q (St L n ((d, row ei.size es2) :: tm) S own)) : aop1 P T ops rest Q ⟨some d, .buildSlice t len parts, ty, pos, af, g⟩ (St L n tm S own) := by
  subst he2
  simp only [aop1, x1]
  show eBuildSlice T (St L n tm S own) d t len parts _
  unfold eBuildSlice
  rw [drop_St ho]
  obtain ⟨ti, q1, q2, q3⟩ := sliceT_ok ht
  refine ⟨ti, e, ei, es, q1, q2, q3, Nat.le_of_ble_eq_true hz, elemsF_ok he, Nat.eq_of_beq_eq_true hl, Nat.le_of_ble_eq_true hb, ?_⟩
  exact .inr (put_some hd hk)
end
end Go.Rd
