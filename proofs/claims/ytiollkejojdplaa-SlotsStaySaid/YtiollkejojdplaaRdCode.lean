/- RD, part 13: operations, regions, code; a function's contract out of its body. -/
import Derived.Test.YtiollkejojdplaaRdWk
import Derived.Test.YtiollkejojdplaaRdPlace4
import Derived.Deep.Quiet
namespace Go.Rd
open Go.RowKit Go.Proofs

/-- min, max of numbers. -/
def qMinMax (isMax : Bool) (vs : List TV) (K : TV → Prop) : Prop :=
  match vs with
  | [.a (.s (.pv (.lit (.int .i64 x)))), .a (.s (.pv (.lit (.int .i64 y))))] => K (int (if isMax then (if y > x then y else x) else (if y < x then y else x)))
  | _ => False

def qBuiltin (P : Program) (st : ASt) (b : Builtin) (xs : List Operand) (ts : List TypeId) (K : TV → Prop) : Prop :=
  match b, xs, ts with
  | .len, [x], [t] => qLen P t (st.ev x) K
  | .cap, [x], [t] => qCap P t (st.ev x) K
  | .max, [x, y], [_, _] => qMinMax true [st.ev x, st.ev y] K
  | .min, [x, y], [_, _] => qMinMax false [st.ev x, st.ev y] K
  | _, _, _ => False

/-- What a quiet operation yields. -/
def xq (P : Program) (T : TypeId → Option TI) (st : ASt) (op : Op) (K : TV → Prop) : Prop :=
  match op with
  | .move x => K (st.ev x)
  | .assign x => K (st.ev x)
  | .pick c x y => qPick (st.ev c) (st.ev x) (st.ev y) K
  | .load t x => qLoad T st.O t (st.ev x) K
  | .binOp op t x y _ => qBin P op t (st.ev x) (st.ev y) K
  | .unOp op _ x => qUn op (st.ev x) K
  | .convert s d x => qConv P s d (st.ev x) K
  | .makeFunc fn first caps => qFunc fn first (caps.toList.map st.ev) K
  | .slice t x lo hi mx => (mx.isNone = true ∧ qSlice T st.O t (st.ev x) (lo.map st.ev) (hi.map st.ev) K) ∨ ∃ l h m, lo = some l ∧ hi = some h ∧ mx = some m ∧ qSlice3 T t (st.ev x) (st.ev l) (st.ev h) (st.ev m) K
  | .fieldAddr s x f => qFieldAddr T s (st.ev x) f K
  | .field t x f => qField T t (st.ev x) f K
  | .indexAddr t x i => qIndexAddr (O := st.O) T t (st.ev x) (st.ev i) K
  | .index t x i => qIndex P t (st.ev x) (st.ev i) K
  | .extract t ix => qExtract ix (st.ev t) K
  | .build t parts => qBuild T t st.ev parts K
  | .call c => (match c.callee with
    | .builtin b => qBuiltin P st b c.args.toList c.argTypes.toList K
    | _ => False)
  | _ => False

section
variable {B : World → Prop} {P : Program} {T : TypeId → Option TI} {st : ASt} {a : Act} {w : World} {ι : Nat → Nat → Nat}

theorem qMinMax_sound {isMax : Bool} {X Y : TV} {vx vy : Value} {O : Store} {K : TV → Prop} (ts : Array TypeId) (t : TypeId) (hX : RepT w (Gd w ι O) ι O X vx) (hY : RepT w (Gd w ι O) ι O Y vy)
    (h : qMinMax isMax [X, Y] K) : Yields B P w ι O K (if isMax then Builtin.max_ ts t #[vx, vy] else Builtin.min_ ts t #[vx, vy]) := by
  unfold qMinMax at h
  split at h
  · rename_i hq
    simp only [List.cons.injEq, and_true] at hq
    obtain ⟨rfl, rfl⟩ := hq
    obtain ⟨rfl, _⟩ := RepP.lit_inv hX
    obtain ⟨rfl, _⟩ := RepP.lit_inv hY
    cases isMax
    · exact .lit h rfl (fun w' => run_min_int2 w' ts t .i64 .i64 _ _)
    · exact .lit h rfl (fun w' => run_max_int2 w' ts t .i64 .i64 _ _)
  · exact h.elim

def isLoad : Op → Bool
  | .load .. => true
  | _ => false
/-- What the machine does at a quiet operation. -/
theorem xq_sound (hT : TOk P T) (h : Good st a w ι) {o : Oper} {K : TV → Prop} (hB : isLoad o.op = true → ∀ w', B w' → Below w.heap.size w w') (hk : xq P T st o.op K) :
    ∃ v val, K v ∧ RepT w (Gd w ι st.O) ι st.O v val ∧ ∀ w', B w' → (execOp a.eval o).run P w' = .ok (.value val) w' := by
  have fin : ∀ {s : Sem Value}, Yields B P w ι st.O K s → (∀ w', (execOp a.eval o).run P w' = ((do pure (Next.value (← s))) : Sem Next).run P w') →
      ∃ v val, K v ∧ RepT w (Gd w ι st.O) ι st.O v val ∧ ∀ w', B w' → (execOp a.eval o).run P w' = .ok (.value val) w' := by
    rintro s ⟨v, val, h1, h2, h3⟩ hs
    exact ⟨v, val, h1, h2, fun w' hw => by rw [hs w']; simp [h3 w' hw]⟩
  obtain ⟨dst, op, type, pos, after, guard⟩ := o
  cases op <;> simp only [xq] at hk
  case move x => exact fin (.pure hk (h.ev x)) (fun w' => rfl)
  case assign x => exact fin (.pure hk (h.ev x)) (fun w' => rfl)
  case pick c x y => exact fin (qPick_sound (P := P) (h.ev c) (h.ev x) (h.ev y) hk) (fun w' => by simp [execOp])
  case load t x => exact fin (qLoad_sound hT (hB rfl) h.lies (h.ev x) hk) (fun w' => rfl)
  case binOp op t x y t2 => exact fin (qBin_sound (h.ev x) (h.ev y) hk) (fun w' => rfl)
  case unOp op t x => exact fin (qUn_sound (h.ev x) hk) (fun w' => rfl)
  case convert s d x => exact fin (qConv_sound (h.ev x) hk) (fun w' => rfl)
  case slice t x lo hi mx =>
    rcases hk with ⟨hm, hk⟩ | ⟨l, hh, m, rfl, rfl, rfl, hk⟩
    case inr => exact fin (qSlice3_sound hT (h.ev x) (h.ev l) (h.ev hh) (h.ev m) hk) (fun w' => rfl)
    have hmx : mx = none := Option.isNone_iff_eq_none.1 hm
    subst hmx
    have hopt : ∀ (y : Option Operand), RepOpt w (Gd w ι st.O) ι st.O (y.map st.ev) (y.map a.eval) := by
      intro y; cases y with
      | none => trivial
      | some y => exact h.ev y
    exact fin (qSlice_sound hT (h.ev x) (hopt lo) (hopt hi) hk) (fun w' => rfl)
  case fieldAddr s x f => exact fin (qFieldAddr_sound hT (h.ev x) hk) (fun w' => rfl)
  case field t x f => exact fin (qField_sound hT (h.ev x) hk) (fun w' => rfl)
  case indexAddr t x i => exact fin (qIndexAddr_sound hT (h.ev x) (h.ev i) hk) (fun w' => rfl)
  case index t x i => exact fin (qIndex_sound (h.ev x) (h.ev i) hk) (fun w' => rfl)
  case extract t ix => exact fin (qExtract_sound (h.ev t) hk) (fun w' => rfl)
  case build t parts => exact fin (qBuild_sound hT (fun x => h.ev x) hk) (fun w' => rfl)
  case makeFunc fn first caps =>
    unfold qFunc at hk
    split at hk
    · rename_i f
      obtain ⟨rfl, bs, hb, hk⟩ := hk
      obtain ⟨h1, h2⟩ := boxesOf_rep (w := w) (ι := ι) (O := st.O) (vs := caps.toList.map a.eval) hb (by simp) (fun j y u hy hu => by
        rw [List.getElem?_map] at hy hu
        cases hx : caps.toList[j]? with
        | none => simp [hx] at hy
        | some x =>
          simp only [hx, Option.map_some, Option.some.injEq] at hy hu
          subst hy; subst hu
          exact h.ev x)
      refine ⟨_, .func (.func f) #[] (bs.map fun p => Value.pointer (some ⟨ι p.1 p.2, 0, none⟩)).toArray, hk, ⟨rfl, h2⟩, fun w' _ => ?_⟩
      rw [← h1]
      simp only [execOp, Instr.makeFunc, ← Array.toList_map, Array.toArray_toList]
      simp
    · exact hk.elim
  case call c =>
    obtain ⟨callee, args, argTypes⟩ := c
    split at hk
    · rename_i b hcal
      simp only at hcal
      subst hcal
      obtain ⟨xs⟩ := args
      obtain ⟨ts⟩ := argTypes
      unfold qBuiltin at hk
      split at hk
      · rename_i x t hx ht
        simp only at hx ht
        subst hx; subst ht
        exact fin (qLen_sound (ty := type) (h.ev x) hk) (fun w' => by simp [execOp, resolve, invoke, builtin])
      · rename_i x t hx ht
        simp only at hx ht
        subst hx; subst ht
        exact fin (qCap_sound (ty := type) (h.ev x) hk) (fun w' => by simp [execOp, resolve, invoke, builtin])
      · rename_i x y t t' hx ht
        simp only at hx ht
        subst hx; subst ht
        exact fin (s := Builtin.max_ #[t, t'] type #[a.eval x, a.eval y]) (by simpa using qMinMax_sound (P := P) #[t, t'] type (h.ev x) (h.ev y) hk) (fun w' => by simp [execOp, resolve, invoke, builtin])
      · rename_i x y t t' hx ht
        simp only at hx ht
        subst hx; subst ht
        exact fin (s := Builtin.min_ #[t, t'] type #[a.eval x, a.eval y]) (by simpa using qMinMax_sound (P := P) #[t, t'] type (h.ev x) (h.ev y) hk) (fun w' => by simp [execOp, resolve, invoke, builtin])
      · exact hk.elim
    · exact hk.elim

/-! ### operations with effect, one after the other -/
def xBuiltin (P : Program) (T : TypeId → Option TI) (st : ASt) (d : Nat) (b : Builtin) (xs : List Operand) (ts : List TypeId) (K : TV → ASt → Prop) : Prop :=
  match b, xs, ts with
  | .append, [s, x], [t, t'] => (t = t' ∧ (eAppend T st d t s x (wkK K) ∨ eAppendS T st d t s x (wkK K))) ∨ eAppendZ P T st d t t' s x (wkK K)
  | .copy, [x, y], [t, _] => eCopy T st t x y K
  | .clear, [x], [t] => eClear T st t x K
  | b, xs, ts => qBuiltin P st b xs ts fun v => K v st

def x1 (P : Program) (T : TypeId → Option TI) (st : ASt) (d : Nat) (op : Op) (K : TV → ASt → Prop) : Prop :=
  match op with
  | .move x => K (st.ev x) st
  | .assign x => K (st.ev x) st
  | .pick c x y => qPick (st.ev c) (st.ev x) (st.ev y) fun v => K v st
  | .load t x => qLoad T st.O t (st.ev x) fun v => K v st
  | .binOp op t x y _ => qBin P op t (st.ev x) (st.ev y) fun v => K v st
  | .unOp op _ x => qUn op (st.ev x) fun v => K v st
  | .convert s t x => qConv P s t (st.ev x) fun v => K v st
  | .makeFunc fn first caps => qFunc fn first (caps.toList.map st.ev) fun v => K v st
  | .slice t x lo hi mx => (mx.isNone = true ∧ qSlice T st.O t (st.ev x) (lo.map st.ev) (hi.map st.ev) fun v => K v st) ∨ ∃ l h m, lo = some l ∧ hi = some h ∧ mx = some m ∧ qSlice3 T t (st.ev x) (st.ev l) (st.ev h) (st.ev m) fun v => K v st
  | .fieldAddr s x f => qFieldAddr T s (st.ev x) f fun v => K v st
  | .field t x f => qField T t (st.ev x) f fun v => K v st
  | .indexAddr t x i => qIndexAddr (O := st.O) T t (st.ev x) (st.ev i) fun v => K v st
  | .index t x i => qIndex P t (st.ev x) (st.ev i) fun v => K v st
  | .extract t ix => qExtract ix (st.ev t) fun v => K v st
  | .build t parts => qBuild T t st.ev parts fun v => K v st
  | .box e x => eBox st d e x K
  | .alloc e => eAlloc T st d e K
  | .store t ad x => eStore T st t ad x K
  | .makeSlice t l c => eMake T st d t l c K
  | .buildSlice t len parts => eBuildSlice T st d t len parts K
  | .call c => (match c.callee with
    | .builtin b => xBuiltin P T st d b c.args.toList c.argTypes.toList K
    | .value f => acall P st d f c.args.toList (wkK K) ∨ acallX P st f c.args.toList K
    | _ => False)
  | _ => False

/-- Is the operation wanted? (None: it cannot be told.) -/
def wantK (ops : List Oper) (st : ASt) (o : Oper) (yes no : ASt → Prop) : Prop :=
  match o.guard with
  | none => yes st
  | some (j, want) => match (ops[j]?).bind (·.dst) with
    | some t => (match st.get t with
      | .a (.s (.pv (.lit (.bool b)))) => t < st.n ∧ (b = true → (if want then yes else no) (st.set t (bool true))) ∧ (b = false → (if want then no else yes) (st.set t (bool false)))
      | .tup [] => t < st.n ∧ no st
      | _ => False)
    | none => False

def aops (P : Program) (T : TypeId → Option TI) (ops : List Oper) : List Oper → (ASt → Prop) → ASt → Prop
  | [], Q, st => Q st
  | o :: rest, Q, st => wantK ops st o (fun st => x1 P T st (o.dst.getD st.n) o.op fun v st' => st'.put o.dst v (aops P T ops rest Q)) (fun st => st.put o.dst (.tup []) (aops P T ops rest Q))

/-- A call of a pure function, handed pure values, that hands back a value that leads nowhere. -/
def pureS : SV → Bool
  | .pv _ => true
  | _ => false
def pureA : AV → Bool
  | .s x => pureS x
  | .agg xs => xs.all pureS
  | .pel .. => true
def acallQ (P : Program) (st : ASt) (op : Op) (K : TV → Prop) : Prop :=
  match op with
  | .call c => (match c.callee with
    | .value fop => ∃ f avs u, st.ev fop = .a (.s (.clo f [])) ∧ argsOf (c.args.toList.map st.ev) = some avs ∧ avs.all pureA = true ∧ (∃ (L : Nat), AC P L f avs (fun _ _ => none) fun r S' => S' = (fun _ _ => none) ∧ r = .val (lit u)) ∧ u.oneCell' = true ∧ K (lit u)
    | _ => False)
  | _ => False

def isQ : Oper → Bool := fun o => match o.op with
  | .move _ | .assign _ | .pick .. | .load .. | .binOp .. | .unOp .. | .convert .. | .makeFunc .. | .fieldAddr .. | .field .. | .indexAddr .. | .index .. | .extract .. | .build .. => true
  | .call c => match c.callee with
    | .builtin .len => true
    | .builtin .min => true
    | .builtin .max => true
    | _ => false
  | _ => false
/-- A step of a region that draws its order. -/
def qstep (P : Program) (T : TypeId → Option TI) (o : Oper) (st : ASt) (K : TV → Prop) : Prop :=
  match isQ o with
  | true => xq P T st o.op K
  | false => acallQ P st o.op K
def qops (P : Program) (T : TypeId → Option TI) (ops : List Oper) : List Oper → (ASt → Prop) → ASt → Prop
  | [], Q, st => Q st
  | o :: rest, Q, st => wantK ops st o (fun st => qstep P T o st fun v => st.put o.dst v (qops P T ops rest Q)) (fun st => st.put o.dst (.tup []) (qops P T ops rest Q))

theorem Good.put {st : ASt} {a : Act} (h : Good st a w ι) {dst : Option Tmp} {v : TV} {val : Value} (hr : RepT w (Gd w ι st.O) ι st.O v val) {K : ASt → Prop} (hk : st.put dst v K) :
    ∃ st', K st' ∧ Good st' (a.put dst val) w ι ∧ st'.L = st.L ∧ st'.n = st.n ∧ st'.O = st.O := by
  unfold ASt.put at hk
  cases dst with
  | none => exact ⟨st, hk, h, rfl, rfl, rfl⟩
  | some d => exact ⟨_, hk.2, ⟨h.toFits.set hk.1 hr, h.sup, h.lev⟩, rfl, rfl, rfl⟩

theorem Moves.of_O {s1 s2 s3 : ASt} {w1 w2 : World} {i1 i2 : Nat → Nat → Nat} (h : Moves s1 s2 w1 w2 i1 i2) (hL : s3.L = s2.L) (hn : s3.n = s2.n) (hO : s3.O = s2.O) : Moves s1 s3 w1 w2 i1 i2 :=
  ⟨hL.trans h.L, hn.trans h.n, h.os, h.tape, h.output, h.size, h.keep, fun l b o ho => h.own l b o (by rw [← hO]; exact ho), fun l b o hl ho => by rw [hO]; exact h.low l b o hl ho, h.roomy⟩

theorem Moves.of_O' {s0 s1 s2 : ASt} {w1 w2 : World} {i1 i2 : Nat → Nat → Nat} (h : Moves s1 s2 w1 w2 i1 i2) (hL : s1.L = s0.L) (hn : s1.n = s0.n) (hO : s1.O = s0.O) : Moves s0 s2 w1 w2 i1 i2 := by
  refine ⟨h.L.trans hL, h.n.trans hn, h.os, h.tape, h.output, h.size, ?_, ?_, ?_, ?_⟩
  · rw [← hO]; exact h.keep
  · rw [← hO]; exact h.own
  · rw [← hL, ← hO]; exact h.low
  · rw [← hL, ← hO]; exact h.roomy

theorem setIf_self (xs : Array Value) (t : Nat) (v : Value) (h : t < xs.size) (hv : xs.getD t undef = v) : xs.setIfInBounds t v = xs := by
  subst hv
  apply Array.ext_getElem?
  intro i
  by_cases hi : i = t
  · subst hi
    rw [Array.getElem?_setIfInBounds_self_of_lt h, Array.getD_eq_getD_getElem?, Array.getElem?_eq_getElem h]
    rfl
  · rw [Array.getElem?_setIfInBounds_ne (fun e => hi e.symm)]

/-- The guard, settled. -/
theorem wantK_sound {ops : List Oper} {st : ASt} {a : Act} (h : Good st a w ι) {o : Oper} {yes no : ASt → Prop} (hk : wantK ops st o yes no) :
    ∃ st', Good st' a w ι ∧ st'.L = st.L ∧ st'.n = st.n ∧ st'.O = st.O ∧ ((Region.wanted o (yielded ops.toArray a.tmps) = true ∧ yes st') ∨ (Region.wanted o (yielded ops.toArray a.tmps) = false ∧ no st')) := by
  unfold wantK at hk
  split at hk
  · rename_i hg
    exact ⟨st, h, rfl, rfl, rfl, .inl ⟨by simp [Region.wanted, hg], hk⟩⟩
  · rename_i j want hg
    split at hk
    · rename_i t ht
      split at hk
      · rename_i b hq
        obtain ⟨hlt, h1, h2⟩ := hk
        have hr := h.tm t hlt
        rw [hq] at hr
        have hv := (RepP.lit_inv hr).1
        have hset : ∀ c : Bool, b = c → Good (st.set t (bool c)) a w ι := by
          rintro c rfl
          have hs := h.toFits.set hlt (v := bool b) (u := .bool b) (RepP.lit _ rfl)
          have e : a.put (some t) (.bool b) = a := by
            simp only [Act.put]
            rw [setIf_self a.tmps t (.bool b) (by rw [h.size]; exact hlt) hv]
          rw [e] at hs
          exact ⟨hs, h.sup, h.lev⟩
        have hyield : yielded ops.toArray a.tmps j = some b := by
          have ht' : (ops.toArray[j]?).bind (·.dst) = some t := by simpa using ht
          have hsz : t < a.tmps.size := by rw [h.size]; exact hlt
          have hv' : a.tmps[t]? = some (.bool b) := by
            rw [Array.getD_eq_getD_getElem?, Array.getElem?_eq_getElem hsz] at hv
            rw [Array.getElem?_eq_getElem hsz]
            exact congrArg some hv
          unfold yielded
          rw [ht']
          simp [hv']
        cases b
        · have := h2 rfl
          cases want
          · exact ⟨_, hset _ rfl, rfl, rfl, rfl, .inl ⟨by simp [Region.wanted, hg, hyield], this⟩⟩
          · exact ⟨_, hset _ rfl, rfl, rfl, rfl, .inr ⟨by simp [Region.wanted, hg, hyield], this⟩⟩
        · have := h1 rfl
          cases want
          · exact ⟨_, hset _ rfl, rfl, rfl, rfl, .inr ⟨by simp [Region.wanted, hg, hyield], this⟩⟩
          · exact ⟨_, hset _ rfl, rfl, rfl, rfl, .inl ⟨by simp [Region.wanted, hg, hyield], this⟩⟩
      · rename_i hq
        obtain ⟨hlt, hno⟩ := hk
        have hr := h.tm t hlt
        rw [hq] at hr
        obtain ⟨vs, hv, _⟩ := hr
        have hyield : yielded ops.toArray a.tmps j = none := by
          have ht' : (ops.toArray[j]?).bind (·.dst) = some t := by simpa using ht
          have hsz : t < a.tmps.size := by rw [h.size]; exact hlt
          have hv' : a.tmps[t]? = some (.tuple vs) := by
            rw [Array.getD_eq_getD_getElem?, Array.getElem?_eq_getElem hsz] at hv
            rw [Array.getElem?_eq_getElem hsz]
            exact congrArg some hv
          unfold yielded
          rw [ht']
          simp [hv']
        exact ⟨st, h, rfl, rfl, rfl, .inr ⟨by simp [Region.wanted, hg, hyield], hno⟩⟩
      · exact hk.elim
    · exact hk.elim
theorem rep_skip {w : World} {G : Nat → Prop} {ι : Nat → Nat → Nat} {O : Store} : RepT w G ι O (.tup []) Go.undef := ⟨#[], rfl, rfl, fun j y h => by simp at h⟩
end
end Go.Rd
