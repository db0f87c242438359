/- RD, part 4: more operations that only look: arithmetic, comparisons, addresses, slices, indexes, tuples. -/
import Derived.Test.YtiollkejojdplaaRdQuiet
import Derived.Laws.Cover3
namespace Go.Rd
open Go.RowKit

section
variable {B : World → Prop} {P : Program} {T : TypeId → Option TI} {w : World} {ι : Nat → Nat → Nat} {O : Store} {K : TV → Prop}

/-! ### arithmetic and comparisons on numbers, strings, bools -/
def intOp (op : BinOp) (k : IntKind) (a b : Int) (K : TV → Prop) : Prop :=
  match op with
  | .add => K (lit (.int k (k.wrap (a + b))))
  | .sub => K (lit (.int k (k.wrap (a - b))))
  | .mul => K (lit (.int k (k.wrap (a * b))))
  | .quo => b ≠ 0 ∧ K (lit (.int k (k.wrap (a.tdiv b))))
  | .rem => b ≠ 0 ∧ K (lit (.int k (a.tmod b)))
  | .and => K (lit (.int k (bits .and k a b)))
  | .or => K (lit (.int k (bits .or k a b)))
  | .xor => K (lit (.int k (bits .xor k a b)))
  | .andNot => K (lit (.int k (bits .andNot k a b)))
  | .shl => 0 ≤ b ∧ K (lit (.int k (k.wrap (a * 2 ^ min b.toNat k.bits))))
  | .shr => 0 ≤ b ∧ K (lit (.int k (a / 2 ^ min b.toNat k.bits)))
  | .eql => K (bool (decide (a = b)))
  | .neq => K (bool (!decide (a = b)))
  | .lss => K (bool (decide (a < b)))
  | .leq => K (bool (decide (a ≤ b)))
  | .gtr => K (bool (decide (b < a)))
  | .geq => K (bool (decide (b ≤ a)))

def strOp (op : BinOp) (a b : ByteArray) (K : TV → Prop) : Prop :=
  match op with
  | .add => a.size + b.size ≤ maxLen ∧ K (str (a ++ b))
  | .eql => K (bool (a.toList == b.toList))
  | .neq => K (bool (!(a.toList == b.toList)))
  | .lss => K (bool (Op.bytesLess a.toList b.toList))
  | .leq => K (bool (Op.bytesLess a.toList b.toList || a.toList == b.toList))
  | .gtr => K (bool (!(Op.bytesLess a.toList b.toList || a.toList == b.toList)))
  | .geq => K (bool (!(Op.bytesLess a.toList b.toList)))
  | _ => False

/-- '==' of two values of one kind. -/
def litEq : Value → Value → Option Bool
  | .int k a, .int k' b => if k = k' then some (decide (a = b)) else none
  | .bool a, .bool b => some (a == b)
  | .string a, .string b => some (a.toList == b.toList)
  | _, _ => none

def lits : List SV → Option (List Value)
  | [] => some []
  | .pv (.lit v) :: r => (lits r).map (v :: ·)
  | _ :: _ => none

/-- '==' of two structs that have plain fields alone. -/
def eqAll : List Value → List Value → Option Bool
  | [], [] => some true
  | a :: x, b :: y => match litEq a b, eqAll x y with
    | some p, some q => some (p && q)
    | _, _ => none
  | _, _ => none

/-- What 'TI' doesn't say: '==' of two structs. -/
def EqAt (P : Program) (t : TypeId) (xs ys : List Value) (r : Bool) : Prop :=
  P.eqGuardType P.depth t = false ∧ ∀ (w : World), (Op.equalIn 10000 t (.agg xs.toArray) (.agg ys.toArray)).run P w = .ok r w

def qBin (P : Program) (op : BinOp) (t : TypeId) (x y : TV) (K : TV → Prop) : Prop :=
  match x, y with
  | .a (.s (.pv (.lit (.int k a)))), .a (.s (.pv (.lit (.int k' b)))) => (k = k' ∨ op = .shl ∨ op = .shr) ∧ intOp op k a b K
  | .a (.s (.pv (.lit (.string a)))), .a (.s (.pv (.lit (.string b)))) => strOp op a b K
  | .a (.s (.pv (.lit (.bool a)))), .a (.s (.pv (.lit (.bool b)))) => P.underlying t = some .bool ∧ (match op with
    | .eql => K (bool (a == b))
    | .neq => K (bool (!(a == b)))
    | _ => False)
  | .a (.agg xs), .a (.agg ys) => ∃ us vs r, lits xs = some us ∧ lits ys = some vs ∧ EqAt P t us vs r ∧ (match op with
    | .eql => K (bool r)
    | .neq => K (bool (!r))
    | _ => False)
  | .a (.s (.pv (.row _ _))), .a (.s (.pv (.lit (.slice none 0 0)))) => (∃ e, P.underlying t = some (.slice e)) ∧ (match op with
    | .eql => K (bool false)
    | .neq => K (bool true)
    | _ => False)
  | .a (.s (.sl _ _ _ _)), .a (.s (.pv (.lit (.slice none 0 0)))) => (∃ e, P.underlying t = some (.slice e)) ∧ (match op with
    | .eql => K (bool false)
    | .neq => K (bool true)
    | _ => False)
  | .a (.s (.pv (.lit (.slice none 0 0)))), .a (.s (.pv (.lit (.slice none 0 0)))) => (∃ e, P.underlying t = some (.slice e)) ∧ (match op with
    | .eql => K (bool true)
    | .neq => K (bool false)
    | _ => False)
  | _, _ => False

theorem lits_rep {G : Nat → Prop} : ∀ {xs : List SV} {us : List Value} {cs : Array Value}, lits xs = some us → cs.size = xs.length →
    (∀ (j : Nat) (y : SV), xs[j]? = some y → ∃ u, cs[j]? = some u ∧ RepS w G ι O y u) → cs.toList = us
  | [], us, cs, h, hl, _ => by
    simp only [lits, Option.some.injEq] at h
    subst h
    exact List.eq_nil_of_length_eq_zero (by simpa using hl)
  | s :: r, us, cs, h, hl, hc => by
    cases s with
    | pv p =>
      cases p with
      | lit v =>
        simp only [lits] at h
        cases hr : lits r with
        | none => simp [hr] at h
        | some us' =>
          simp only [hr, Option.map_some, Option.some.injEq] at h
          subst h
          obtain ⟨l⟩ := cs
          cases l with
          | nil => simp at hl
          | cons c l =>
            obtain ⟨u, hu, hru⟩ := hc 0 _ rfl
            simp only [List.getElem?_toArray, List.getElem?_cons_zero, Option.some.injEq] at hu
            subst hu
            have := RepP.lit_inv hru
            rw [this.1]
            have ih := lits_rep (cs := l.toArray) hr (by simpa using hl) (fun j y hy => by
              obtain ⟨u, hu, h2⟩ := hc (j + 1) y (by simpa using hy)
              exact ⟨u, by simpa using hu, h2⟩)
            simpa using ih
      | row => simp [lits] at h
      | clo => simp [lits] at h
    | _ => simp [lits] at h

theorem intOp_sound {op : BinOp} {k k' : IntKind} {a b : Int} {t : TypeId} {x y : Operand} (hk : k = k' ∨ op = .shl ∨ op = .shr) (h : intOp op k a b K) :
    Yields B P w ι O K (do eqGuard op t x y (.int k a) (.int k' b); binOp op t (.int k a) (.int k' b)) := by
  have hg : eqGuard op t x y (.int k a) (.int k' b) = Pure.pure () := by cases op <;> rfl
  rw [hg]
  cases op <;> simp only [intOp] at h <;> (try (rcases hk with rfl | h0 | h0 <;> first | cases h0 | skip))
  case shl => exact .lit h.2 rfl (fun w' => by rw [binOp_shl, shift_shl_any _ _ _ _ h.1]; rfl)
  case shr => exact .lit h.2 rfl (fun w' => by rw [binOp_shr, shift_shr_any _ _ _ _ h.1]; rfl)
  case shl.inr.inl => exact .lit h.2 rfl (fun w' => by rw [binOp_shl, shift_shl_any _ _ _ _ h.1]; rfl)
  case shr.inr.inr => exact .lit h.2 rfl (fun w' => by rw [binOp_shr, shift_shr_any _ _ _ _ h.1]; rfl)
  case quo => exact .lit h.2 rfl (fun w' => by simp [binOp, Op.intDiv, h.1])
  case rem => exact .lit h.2 rfl (fun w' => by simp [binOp, Op.intDiv, h.1])
  case neq => exact .lit h rfl (fun w' => by simp [binOp, Op.intCmp]; by_cases e : a = b <;> simp [e])
  all_goals (refine .lit h rfl (fun w' => ?_); simp [binOp, Op.intArith, Op.intBits, Op.intCmp, bits, Bool.beq_eq_decide_eq])

theorem strOp_sound {op : BinOp} {a b : ByteArray} {t : TypeId} {x y : Operand} (h : strOp op a b K) :
    Yields B P w ι O K (do eqGuard op t x y (.string a) (.string b); binOp op t (.string a) (.string b)) := by
  have hg : eqGuard op t x y (.string a) (.string b) = Pure.pure () := by cases op <;> rfl
  rw [hg]
  cases op <;> simp only [strOp] at h
  all_goals first
    | exact h.elim
    | exact .lit h rfl (fun w' => by simp [binOp, Op.stringOp]; done)
    | exact .lit h.2 rfl (fun w' => by
        have h1 := h.1
        unfold maxLen at h1
        have : ¬ (((a.size + b.size : Nat) : Int) > IntKind.i64.max) := by simp only [IntKind.max, IntKind.signed, IntKind.bits]; simp; omega
        simp only [binOp, Op.stringOp, if_neg this]; simp)

theorem run_eql_nilS (w : World) (t e : TypeId) (a : Option Addr) (l c : Nat) (h : P.underlying t = some (.slice e)) : (binOp .eql t (.slice a l c) (.slice none 0 0)).run P w = .ok (.bool a.isNone) w := by
  simp only [binOp]
  simp [run_equal_slice_nil w t e a l c h]

theorem qBin_sound {op : BinOp} {t : TypeId} {x y : Operand} {vx vy : Value} {X Y : TV}
    (hX : RepT w (Gd w ι O) ι O X vx) (hY : RepT w (Gd w ι O) ι O Y vy) (h : qBin P op t X Y K) :
    Yields B P w ι O K (do eqGuard op t x y vx vy; binOp op t vx vy) := by
  unfold qBin at h
  split at h
  · obtain ⟨rfl, _⟩ := RepP.lit_inv hX
    obtain ⟨rfl, _⟩ := RepP.lit_inv hY
    exact intOp_sound h.1 h.2
  · obtain ⟨rfl, _⟩ := RepP.lit_inv hX
    obtain ⟨rfl, _⟩ := RepP.lit_inv hY
    exact strOp_sound h
  · rename_i a b
    obtain ⟨rfl, _⟩ := RepP.lit_inv hX
    obtain ⟨rfl, _⟩ := RepP.lit_inv hY
    obtain ⟨hu, h⟩ := h
    have hg : eqGuard op t x y (.bool a) (.bool b) = Pure.pure () := by cases op <;> rfl
    rw [hg]
    cases op <;> first
      | exact h.elim
      | exact .lit h rfl (fun w' => by simp [run_eql_bool, run_neq_bool, hu])
  · rename_i xs ys
    obtain ⟨us, vs, r, h1, h2, ⟨hm, heq⟩, h⟩ := h
    obtain ⟨cx, rfl, lx, hcx⟩ := hX
    obtain ⟨cy, rfl, ly, hcy⟩ := hY
    have ex := lits_rep h1 lx hcx
    have ey := lits_rep h2 ly hcy
    have hrun : ∀ w', (Op.equalIn 10000 t (.agg cx) (.agg cy)).run P w' = .ok r w' := fun w' => by
      have := heq w'
      rw [← ex, ← ey] at this
      simpa using this
    cases op <;> first
      | exact h.elim
      | exact .lit h rfl (fun w' => by
          simp only [Sem.run_bind, run_eqGuard_agg w' _ t x y cx cy hm, Result.andThen_ok, run_eql_struct, run_neq_struct, hrun])
  · rename_i esz es
    obtain ⟨blk, off, cap, rfl, _⟩ := RepP.row_inv hX
    obtain ⟨rfl, _⟩ := RepP.lit_inv hY
    obtain ⟨⟨e, hu⟩, h⟩ := h
    have hg : eqGuard op t x y (.slice (some ⟨blk, off, none⟩) es.length cap) (.slice none 0 0) = Pure.pure () := by cases op <;> rfl
    rw [hg]
    cases op <;> first
      | exact h.elim
      | exact .lit h rfl (fun w' => by simp [run_eql_nilS w' t e _ _ _ hu, run_neq_slice_nil w' t e _ _ _ hu])
  · obtain ⟨e', esz, es, cap, c, _, rfl, _⟩ := hX
    obtain ⟨rfl, _⟩ := RepP.lit_inv hY
    obtain ⟨⟨e, hu⟩, h⟩ := h
    have hg : ∀ a n c, eqGuard op t x y (.slice a n c) (.slice none 0 0) = Pure.pure () := fun a n c => by cases op <;> rfl
    rw [hg]
    cases op <;> first
      | exact h.elim
      | exact .lit h rfl (fun w' => by simp [run_eql_nilS w' t e _ _ _ hu, run_neq_slice_nil w' t e _ _ _ hu])
  · obtain ⟨rfl, _⟩ := RepP.lit_inv hX
    obtain ⟨rfl, _⟩ := RepP.lit_inv hY
    obtain ⟨⟨e, hu⟩, h⟩ := h
    have hg : eqGuard op t x y (.slice none 0 0) (.slice none 0 0) = Pure.pure () := by cases op <;> rfl
    rw [hg]
    cases op <;> first
      | exact h.elim
      | exact .lit h rfl (fun w' => by simp [run_eql_nilS w' t e _ _ _ hu, run_neq_slice_nil w' t e _ _ _ hu])
  · exact h.elim

/-! ### one operand -/
def qUn (op : UnOp) (x : TV) (K : TV → Prop) : Prop :=
  match op, x with
  | .not, .a (.s (.pv (.lit (.bool b)))) => K (bool (!b))
  | .neg, .a (.s (.pv (.lit (.int k n)))) => K (lit (.int k (k.wrap (-n))))
  | .xor, .a (.s (.pv (.lit (.int k n)))) => K (lit (.int k (bits .xor k (if k.signed then -1 else k.max) n)))
  | _, _ => False

theorem qUn_sound {op : UnOp} {X : TV} {vx : Value} (hX : RepT w (Gd w ι O) ι O X vx) (h : qUn op X K) : Yields B P w ι O K (Op.unary op vx) := by
  unfold qUn at h
  split at h
  · obtain ⟨rfl, _⟩ := RepP.lit_inv hX
    exact .lit h rfl (fun w' => by simp [Op.unary])
  · obtain ⟨rfl, _⟩ := RepP.lit_inv hX
    exact .lit h rfl (fun w' => by simp [Op.unary, Op.intArith])
  · obtain ⟨rfl, _⟩ := RepP.lit_inv hX
    exact .lit h rfl (fun w' => by simp [Op.unary, Op.intBits, bits])
  · exact h.elim

def qConv (P : Program) (src dst : TypeId) (x : TV) (K : TV → Prop) : Prop :=
  match x with
  | .a (.s (.pv (.lit (.int _ n)))) => (P.underlying src).isSome = true ∧ ∃ k, P.underlying dst = some (.int k) ∧ K (lit (.int k (k.wrap n)))
  | .a (.s (.pv (.lit (.string s)))) => (P.underlying src).isSome = true ∧ P.underlying dst = some .string ∧ K (str s)
  | _ => False

theorem qConv_sound {src dst : TypeId} {X : TV} {vx : Value} (hX : RepT w (Gd w ι O) ι O X vx) (h : qConv P src dst X K) : Yields B P w ι O K (convert src dst vx) := by
  unfold qConv at h
  split at h
  · obtain ⟨rfl, _⟩ := RepP.lit_inv hX
    obtain ⟨hs, k, hd, h⟩ := h
    obtain ⟨d, hd'⟩ := Option.isSome_iff_exists.mp hs
    exact .lit h rfl (fun w' => by simp [convert, run_underlying hd', run_underlying hd, Conv.intToInt])
  · obtain ⟨rfl, _⟩ := RepP.lit_inv hX
    obtain ⟨hs, hd, h⟩ := h
    obtain ⟨d, hd'⟩ := Option.isSome_iff_exists.mp hs
    exact .lit h rfl (fun w' => by simp [convert, run_underlying hd', run_underlying hd])
  · exact h.elim

def qPick (c x y : TV) (K : TV → Prop) : Prop :=
  match c with
  | .a (.s (.pv (.lit (.bool t)))) => (t = true → K x) ∧ (t = false → K y)
  | _ => False

theorem qPick_sound {C X Y : TV} {vc vx vy : Value} (hC : RepT w (Gd w ι O) ι O C vc) (hX : RepT w (Gd w ι O) ι O X vx) (hY : RepT w (Gd w ι O) ι O Y vy)
    (h : qPick C X Y K) : Yields B P w ι O K (do Pure.pure (if ← asBool vc then vx else vy)) := by
  unfold qPick at h
  split at h
  · rename_i t
    obtain ⟨rfl, _⟩ := RepP.lit_inv hC
    cases t
    · exact ⟨Y, vy, h.2 rfl, hY, fun w' _ => by simp [asBool]⟩
    · exact ⟨X, vx, h.1 rfl, hX, fun w' _ => by simp [asBool]⟩
  · exact h.elim

def qExtract (ix : Nat) (x : TV) (K : TV → Prop) : Prop :=
  match x with
  | .tup xs => ∃ v, xs[ix]? = some v ∧ K (.a v)
  | _ => False

theorem qExtract_sound {ix : Nat} {X : TV} {vx : Value} (hX : RepT w (Gd w ι O) ι O X vx) (h : qExtract ix X K) : Yields B P w ι O K (Instr.extract vx ix) := by
  unfold qExtract at h
  split at h
  · obtain ⟨vs, rfl, hl, hc⟩ := hX
    obtain ⟨v, hv, h⟩ := h
    obtain ⟨u, hu, hr⟩ := hc ix v hv
    exact ⟨_, u, h, hr, fun w' _ => by simp [Instr.extract, hu]⟩
  · exact h.elim
end
end Go.Rd
