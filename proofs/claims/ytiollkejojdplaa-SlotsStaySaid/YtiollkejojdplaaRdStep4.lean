/- RD, part 19: what a function hands back; calls; appends. -/
import Derived.Test.YtiollkejojdplaaRdStep3
namespace Go.Rd
open Go.RowKit Go.Proofs

def capsB (own : List (Nat × AObj)) : List Nat → Option (List (List PV))
  | [] => some []
  | b :: r => match alook own b with
    | some (.box _ cs) => match pvsOf cs with
      | some ps => match capsB own r with
        | some qs => some (ps :: qs)
        | none => none
      | none => none
    | _ => none
theorem capsB_ok {own : List (Nat × AObj)} {L : Nat} {S : Store} : ∀ {bs : List Nat} {css : List (List PV)}, capsB own bs = some css → capsPV (mkO S L own) L (bs.map fun b => (L, b)) = some css
  | [], css, h => h
  | b :: r, css, h => by
    unfold capsB at h
    rw [List.map_cons]
    unfold capsPV
    rw [if_pos rfl, mkO_own]
    split at h
    · rename_i e cs ho
      rw [ho]
      simp only
      split at h
      · rename_i ps hps
        rw [hps]
        simp only
        split at h
        · rename_i qs hqs
          rw [capsB_ok hqs]
          exact h
        · cases h
      · cases h
    · cases h

inductive Fz (own : List (Nat × AObj)) (L : Nat) : SV → SV → Prop
  | pv (p : PV) : Fz own L (.pv p) (.pv p)
  | fn (f : FuncId) : Fz own L (.clo f []) (.clo f [])
  | sl {b len : Nat} {e : TypeId} {esz : Nat} {es : List (List PV)} (h : alook own b = some (.row e esz es)) (hl : len = es.length) : Fz own L (.sl L b 0 len) (.pv (.row esz es))
  | slT {b len : Nat} {e : TypeId} {esz : Nat} {es es2 : List (List PV)} (h : alook own b = some (.row e esz es)) (hl : es.take len = es2) : Fz own L (.sl L b 0 len) (.pv (.row esz es2))
  | slL {l b off len : Nat} (h : l < L) : Fz own L (.sl l b off len) (.sl l b off len)
  | slcL {l b off len cap : Nat} (h : l < L) : Fz own L (.slc l b off len cap) (.slc l b off len cap)
  | pbL {l b j : Nat} (h : l < L) : Fz own L (.pb l b j) (.pb l b j)
  | cloB {f : FuncId} {caps : List (Nat × Nat)} {css : List (List PV)} (b : Nat) (bs : List Nat) (he : caps = (b :: bs).map fun b => (L, b)) (h : capsB own (b :: bs) = some css) : Fz own L (.clo f caps) (.pv (.clo f css))
inductive FzL (own : List (Nat × AObj)) (L : Nat) : List SV → List SV → Prop
  | nil : FzL own L [] []
  | cons {x y : SV} {xs ys : List SV} (h : Fz own L x y) (hr : FzL own L xs ys) : FzL own L (x :: xs) (y :: ys)
inductive FzA (own : List (Nat × AObj)) (L : Nat) : AV → AV → Prop
  | s {x y : SV} (h : Fz own L x y) : FzA own L (.s x) (.s y)
  | agg {xs ys : List SV} (h : FzL own L xs ys) : FzA own L (.agg xs) (.agg ys)
inductive FzAs (own : List (Nat × AObj)) (L : Nat) : List AV → List AV → Prop
  | nil : FzAs own L [] []
  | cons {x y : AV} {xs ys : List AV} (h : FzA own L x y) (hr : FzAs own L xs ys) : FzAs own L (x :: xs) (y :: ys)
/-- The results. -/
inductive ResL (T : TypeId → Option TI) (tm : List (Nat × TV)) (own : List (Nat × AObj)) (L : Nat) : List ResultVar → List AV → Prop
  | nil : ResL T tm own L [] []
  | tmp {t : Nat} {x : AV} {rs : List ResultVar} {xs : List AV} (h : evF tm (.tmp t) = some (.a x)) (hr : ResL T tm own L rs xs) : ResL T tm own L (.tmp t :: rs) (x :: xs)
  | cell {ad : Nat} {t e : TypeId} {b j : Nat} {cs : List SV} {ti : TI} {x : AV} {rs : List ResultVar} {xs : List AV} (h : evF tm (.tmp ad) = some (.a (.s (.pb L b j)))) (ho : alook own b = some (.box e cs)) (ht : T t = some ti)
      (hv : cellsF ti cs j = some (.a x)) (hr : ResL T tm own L rs xs) : ResL T tm own L (.cell ad t :: rs) (x :: xs)

section
variable {P : Program} {T : TypeId → Option TI} {L n : Nat} {tm tm' : List (Nat × TV)} {S : Store} {own own' : List (Nat × AObj)}

theorem Fz.ok {x y : SV} (h : Fz own L x y) : x.fz (mkO S L own) L = y := by
  cases h with
  | pv p => rfl
  | fn f => rfl
  | sl h hl =>
    subst hl
    simp only [SV.fz, mkO_own, h, if_true]
    simp
  | slT h hl =>
    subst hl
    simp only [SV.fz, mkO_own, h, if_true]
    simp
  | slL h => simp only [SV.fz]; rw [if_neg (by omega)]
  | slcL h => simp only [SV.fz]; rw [if_neg (by omega)]
  | pbL h => simp only [SV.fz]; rw [if_neg (by omega)]
  | cloB b bs he h =>
    subst he
    simp only [SV.fz]
    rw [if_pos (by simp), capsB_ok h]
theorem FzL.ok {xs ys : List SV} (h : FzL own L xs ys) : xs.map (·.fz (mkO S L own) L) = ys := by
  induction h with
  | nil => rfl
  | cons h _ ih => rw [List.map_cons, h.ok, ih]
theorem FzA.ok {x y : AV} (h : FzA own L x y) : x.fz (mkO S L own) L = y := by
  cases h with
  | s h => simp only [AV.fz, h.ok]
  | agg h => simp only [AV.fz, h.ok]
theorem FzAs.ok {xs ys : List AV} (h : FzAs own L xs ys) : xs.map (·.fz (mkO S L own) L) = ys := by
  induction h with
  | nil => rfl
  | cons h _ ih => rw [List.map_cons, h.ok, ih]
theorem ResL.ok {rs : List ResultVar} {xs : List AV} (h : ResL T tm own L rs xs) {K : List TV → Prop} (hk : K (xs.map .a)) : resK T (St L n tm S own) rs K := by
  induction h generalizing K with
  | nil => exact hk
  | tmp h _ ih =>
    unfold resK
    refine ih ?_
    rw [show (St L n tm S own).get _ = _ from evF_ok (L := L) (n := n) (S := S) (own := own) h]
    exact hk
  | cell h ho ht hv _ ih =>
    unfold resK
    rw [show (St L n tm S own).get _ = _ from evF_ok (L := L) (n := n) (S := S) (own := own) h]
    refine ⟨_, ht, ?_⟩
    have : (St L n tm S own).O L _ = some (.box _ _) := (mkO_own S L own _).trans ho
    simp only [this]
    exact cellsF_ok hv (ih hk)

theorem argsOf_map : ∀ (xs : List AV), argsOf (xs.map TV.a) = some xs
  | [] => rfl
  | x :: r => by simp [argsOf, argsOf_map r]

theorem joinR_one (x : AV) : joinR [TV.a x] = some (.a x) := rfl
theorem joinR_more {xs : List AV} (h : Nat.beq xs.length 1 = false) : joinR (xs.map TV.a) = some (.tup xs) := by
  unfold joinR
  split
  · rename_i v hv
    exfalso
    have : xs.length = 1 := by rw [← List.length_map (f := TV.a), hv]; rfl
    rw [this] at h; cases h
  · rw [argsOf_map]; rfl

def isEnd : Exit → Bool
  | .normal => true
  | .ret => true
  | _ => false
theorem retQ_end {X : ASt → TV → Prop} {rs : List ResultVar} {e : Exit} {st : ASt} (he : isEnd e = true) (h : resK T st rs fun vs => ∃ v, joinR vs = some v ∧ X st v) : retQ T rs X e st := by
  cases e <;> first | exact h | cases he

theorem r_one {R : RV → Store → Prop} {rs : List ResultVar} {e : Exit} {x y : AV} (he : isEnd e = true) (h : ResL T tm own L rs [x]) (hf : FzA own L x y) (hS : Sup S L) (hR : R (.val (.a y)) S) :
    retQ T rs (exitVal R) e (St L n tm S own) := by
  refine retQ_end he (h.ok ⟨_, joinR_one x, ?_⟩)
  show R (.val (.a (x.fz (mkO S L own) L))) (cut (mkO S L own) L)
  rw [hf.ok, cut_mkO hS]
  exact hR
theorem r_tup {R : RV → Store → Prop} {rs : List ResultVar} {e : Exit} {xs ys : List AV} (he : isEnd e = true) (h : ResL T tm own L rs xs) (hn : Nat.beq xs.length 1 = false) (hf : FzAs own L xs ys) (hS : Sup S L) (hR : R (.val (.tup ys)) S) :
    retQ T rs (exitVal R) e (St L n tm S own) := by
  refine retQ_end he (h.ok ⟨_, joinR_more hn, ?_⟩)
  show R (.val (.tup (xs.map (·.fz (mkO S L own) L)))) (cut (mkO S L own) L)
  rw [hf.ok, cut_mkO hS]
  exact hR
theorem r_own {R : RV → Store → Prop} {rs : List ResultVar} {ex : Exit} {b len : Nat} {e : TypeId} {esz : Nat} {es : List (List PV)} (he : isEnd ex = true) (h : ResL T tm own L rs [.s (.sl L b 0 len)]) (ho : alook own b = some (.row e esz es)) (hl : len = es.length)
    (hS : Sup S L) (hR : R (.own e esz es) S) : retQ T rs (exitOwn R) ex (St L n tm S own) := by
  refine retQ_end he (h.ok ⟨_, joinR_one _, ?_⟩)
  exact ⟨rfl, rfl, e, esz, es, (mkO_own S L own b).trans ho, hl, by show R _ (cut (mkO S L own) L); rw [cut_mkO hS]; exact hR⟩
theorem r_ownT {R : RV → Store → Prop} {rs : List ResultVar} {ex : Exit} {b len : Nat} {e : TypeId} {esz : Nat} {es : List (List PV)} {rest : List AV} {ps : List PV} (he : isEnd ex = true) (h : ResL T tm own L rs (.s (.sl L b 0 len) :: rest)) (hn : Nat.beq (rest.length + 1) 1 = false)
    (hp : rest = ps.map fun p => .s (.pv p)) (ho : alook own b = some (.row e esz es)) (hl : len = es.length) (hS : Sup S L) (hR : R (.ownT e esz es ps) S) : retQ T rs (exitOwnT R) ex (St L n tm S own) := by
  refine retQ_end he (h.ok ⟨_, joinR_more hn, ?_⟩)
  exact ⟨rfl, rfl, e, esz, es, ps, (mkO_own S L own b).trans ho, hl, hp, by show R _ (cut (mkO S L own) L); rw [cut_mkO hS]; exact hR⟩

/-- A function's contract out of its body, in normal form. -/
theorem fn_St {X : (RV → Store → Prop) → ASt → TV → Prop} (hX : Hands X) (hT : TOk P T) (hm : P.follows .mixedOrders = true) {f : FuncId} {fn : Func} {c : Code} {rs : List ResultVar} (hf : P.funcs[f]? = some fn) (hb : fn.body = some c)
    (hname : (fn.name == "runtime.NumGoroutine") = false) (hrs : fn.results.toList = rs) (hn : fn.ntmps = n) {args : List AV} (ha : Nat.ble args.length n = true) (hL : 0 < L) {R : RV → Store → Prop}
    (h : Sup S L → awp P T false c (retQ T rs (X R)) (St L n (tmOf 0 args) S [])) : AC P L f args S R := by
  subst hn; subst hrs
  refine fn_AC hX hT hm hf hb hname hL (Nat.le_of_ble_eq_true ha) fun hS => ?_
  have := h hS
  unfold St at this
  rw [mkO_nil hS] at this
  exact this

/-! ### calls -/
def noSlS : SV → Bool
  | .sl .. => false
  | _ => true
def noSlA : AV → Bool
  | .s x => noSlS x
  | .agg xs => xs.all noSlS
  | .pel .. => true
def argsF (tm : List (Nat × TV)) : List Operand → Option (List AV)
  | [] => some []
  | x :: r => match evF tm x with
    | some (.a v) => match noSlA v with
      | true => match argsF tm r with
        | some vs => some (v :: vs)
        | none => none
      | false => none
    | _ => none
theorem freezeL_id {st : ASt} : ∀ (xs : List SV), xs.all noSlS = true → st.freezeL xs = st
  | [], _ => rfl
  | x :: r, h => by
    simp only [List.all_cons, Bool.and_eq_true] at h
    cases x with
    | sl => simp [noSlS] at h
    | _ => exact freezeL_id r h.2
theorem argsF_ok : ∀ (xs : List Operand) {vs : List AV}, argsF tm xs = some vs → (St L n tm S own).freezeA xs = St L n tm S own ∧ argsOf (xs.map (St L n tm S own).ev) = some vs
  | [], vs, h => by simp only [argsF, Option.some.injEq] at h; subst h; exact ⟨rfl, rfl⟩
  | x :: r, vs, h => by
    unfold argsF at h
    split at h
    · rename_i v hv
      split at h
      · rename_i hn
        split at h
        · rename_i vs' hr
          simp only [Option.some.injEq] at h
          subst h
          obtain ⟨h1, h2⟩ := argsF_ok r hr
          refine ⟨?_, ?_⟩
          · unfold ASt.freezeA
            rw [evF_ok hv]
            cases v with
            | s y => simp only [cellsOf]; rw [freezeL_id [y] (by simpa [noSlA] using hn)]; exact h1
            | agg ys => simp only [cellsOf]; rw [freezeL_id ys (by simpa [noSlA] using hn)]; exact h1
            | pel => exact h1
          · rw [List.map_cons, evF_ok hv]
            simp only [argsOf, h2, Option.map_some]
        · cases h
      · cases h
    · cases h

/-- A pure function: what it hands back, at each level and over each store. -/
def ACv (P : Program) (f : FuncId) (args : List AV) (V : TV → Prop) : Prop := ∀ (L : Nat) (S : Store), 0 < L → AC P L f args S fun r S' => S' = S ∧ ∃ v, r = .val v ∧ V v
/-- A function that hands back a new row. -/
def ACo (P : Program) (f : FuncId) (args : List AV) (e : TypeId) (esz : Nat) (V : List (List PV) → Prop) : Prop := ∀ (L : Nat) (S : Store), 0 < L → AC P L f args S fun r S' => S' = S ∧ ∃ es, r = .own e esz es ∧ V es

variable {ops rest : List Oper} {Q : ASt → Prop} {d : Tmp} {ty : TypeId} {pos : String} {af : Array Edge} {g : Option (Nat × Bool)}

theorem st_call {fop : Operand} {xs : List Operand} {ts : Array TypeId} {f : FuncId} {caps : List (Nat × Nat)} {avs : List AV} {R : RV → Store → Prop} (ho : alook own d = none) (hf : evF tm fop = some (.a (.s (.clo f caps)))) (hx : argsF tm xs = some avs)
    (hd : Nat.blt d n = true) (hA : AC P (L + 1) f (avs ++ caps.map fun p => .s (.pb p.1 p.2 0)) (mkO S L own) R)
    (hk : ∀ r S', R r S' → match r with
      | .val tv => aops P T ops rest Q ⟨L, n, (d, tv) :: tm, S'⟩
      | .own e esz es => S' L d = none ∧ aops P T ops rest Q ⟨L, n, (d, .a (.s (.sl L d 0 es.length))) :: tm, upd S' L d (some (.row e esz es))⟩
      | .ownT e esz es rs => S' L d = none ∧ aops P T ops rest Q ⟨L, n, (d, .tup (.s (.sl L d 0 es.length) :: rs.map fun p => .s (.pv p))) :: tm, upd S' L d (some (.row e esz es))⟩) :
    aop1 P T ops rest Q ⟨some d, .call ⟨.value fop, xs.toArray, ts⟩, ty, pos, af, g⟩ (St L n tm S own) := by
  simp only [aop1, x1, Option.getD_some]
  refine .inl (.inl ?_)
  unfold acallAt
  rw [drop_St ho]
  obtain ⟨h1, h2⟩ := argsF_ok (L := L) (n := n) (S := S) (own := own) xs hx
  rw [h1, evF_ok hf]
  refine ⟨avs, R, h2, hA, fun r S' hr => ?_⟩
  have := hk r S' hr
  cases r with
  | val tv => exact .inl ⟨Nat.le_of_ble_eq_true hd, this⟩
  | own e esz es => exact ⟨this.1, .inl ⟨Nat.le_of_ble_eq_true hd, this.2⟩⟩
  | ownT e esz es rs => exact ⟨this.1, .inl ⟨Nat.le_of_ble_eq_true hd, this.2⟩⟩

theorem st_callv {fop : Operand} {xs : List Operand} {ts : Array TypeId} {f : FuncId} {avs : List AV} {V : TV → Prop} (ho : alook own d = none) (hf : evF tm fop = some (.a (.s (.clo f [])))) (hx : argsF tm xs = some avs)
    (hd : Nat.blt d n = true) (hA : ACv P f avs V) (hk : ∀ v, V v → aops P T ops rest Q (St L n ((d, v) :: tm) S own)) :
    aop1 P T ops rest Q ⟨some d, .call ⟨.value fop, xs.toArray, ts⟩, ty, pos, af, g⟩ (St L n tm S own) := by
  refine st_call ho hf hx hd (by simpa using hA (L + 1) (mkO S L own) (Nat.succ_pos _)) ?_
  rintro r S' ⟨rfl, v, rfl, hv⟩
  exact hk v hv
theorem st_callo {fop : Operand} {xs : List Operand} {ts : Array TypeId} {f : FuncId} {avs : List AV} {e : TypeId} {esz : Nat} {V : List (List PV) → Prop} (ho : alook own d = none) (hf : evF tm fop = some (.a (.s (.clo f [])))) (hx : argsF tm xs = some avs)
    (hd : Nat.blt d n = true) (hA : ACo P f avs e esz V) (hk : ∀ es, V es → aops P T ops rest Q (St L n ((d, .a (.s (.sl L d 0 es.length))) :: tm) S ((d, .row e esz es) :: own))) :
    aop1 P T ops rest Q ⟨some d, .call ⟨.value fop, xs.toArray, ts⟩, ty, pos, af, g⟩ (St L n tm S own) := by
  refine st_call ho hf hx hd (by simpa using hA (L + 1) (mkO S L own) (Nat.succ_pos _)) ?_
  rintro r S' ⟨rfl, es, rfl, hv⟩
  refine ⟨by rw [mkO_own]; exact ho, ?_⟩
  rw [mkO_upd]
  exact hk es hv

/-! ### append -/
def mentS (b : Nat) : SV → Bool
  | .pb _ c _ => Nat.beq c b
  | .pr _ c _ _ => Nat.beq c b
  | .sl _ c _ _ => Nat.beq c b
  | .slc _ c _ _ _ => Nat.beq c b
  | .clo _ caps => caps.any fun p => Nat.beq p.2 b
  | _ => false
def mentA (b : Nat) : AV → Bool
  | .s x => mentS b x
  | .agg xs => xs.any (mentS b)
  | .pel .. => false
def mentT (b : Nat) : TV → Bool
  | .undef => false
  | .a x => mentA b x
  | .tup xs => xs.any (mentA b)
def filtF (b : Nat) : List (Nat × TV) → Option (List (Nat × TV))
  | [] => some []
  | (k, v) :: r => match filtF b r with
    | some r' => match mentT b v with
      | true => some ((k, .undef) :: r')
      | false => some ((k, v) :: r')
    | none => none
def mentO (b : Nat) : List (Nat × AObj) → Bool
  | [] => false
  | (_, .box _ cs) :: r => match cs.any (mentS b) with
    | true => true
    | false => mentO b r
  | (_, .row ..) :: r => mentO b r
theorem mentS_ok {L b : Nat} {g : Nat → Nat → SV} {s : SV} (h : mentS b s = false) : s.sub L b g = s := by
  have ne : ∀ c, Nat.beq c b = false → ¬ c = b := fun c hc e => by subst e; simp at hc
  cases s with
  | pb l c j => simp only [SV.sub]; rw [if_neg (fun e => ne c h e.2)]
  | pr l c i j => simp only [SV.sub]; rw [if_neg (fun e => ne c h e.2)]
  | sl l c off len => simp only [SV.sub]; rw [if_neg (fun e => ne c h e.2)]
  | slc l c off len cap => simp only [SV.sub]; rw [if_neg (fun e => ne c h e.2)]
  | clo f caps =>
    simp only [SV.sub]
    rw [if_neg]
    intro hm
    simp only [mentS] at h
    have := List.any_eq_false.1 h (L, b) hm
    simp at this
  | _ => rfl
theorem map_sub {L b : Nat} {g : Nat → Nat → SV} : ∀ {xs : List SV}, xs.any (mentS b) = false → xs.map (·.sub L b g) = xs
  | [], _ => rfl
  | x :: r, h => by
    simp only [List.any_cons, Bool.or_eq_false_iff] at h
    rw [List.map_cons, mentS_ok h.1, map_sub h.2]
theorem mentA_ok {L b : Nat} {g : Nat → Nat → SV} {s : AV} (h : mentA b s = false) : s.sub L b g = s := by
  cases s with
  | s x => simp only [AV.sub, mentS_ok h]
  | agg xs => simp only [AV.sub, map_sub h]
  | pel => rfl
theorem mentT_ok {L b : Nat} {g : Nat → Nat → SV} {s : TV} (h : mentT b s = false) : s.sub L b g = s := by
  cases s with
  | undef => rfl
  | a x => simp only [TV.sub, mentA_ok h]
  | tup xs =>
    simp only [TV.sub]
    congr 1
    have : ∀ {xs : List AV}, xs.any (mentA b) = false → xs.map (·.sub L b g) = xs := by
      intro xs
      induction xs with
      | nil => intro _; rfl
      | cons x r ih =>
        intro h
        simp only [List.any_cons, Bool.or_eq_false_iff] at h
        rw [List.map_cons, mentA_ok h.1, ih h.2]
    exact this h
theorem filtF_ok {L b : Nat} {g : Nat → Nat → SV} : ∀ {tm tm' : List (Nat × TV)}, filtF b tm = some tm' → ∀ t, lk tm' t = .undef ∨ lk tm' t = (lk tm t).sub L b g
  | [], tm', h, t => by simp only [filtF, Option.some.injEq] at h; subst h; exact .inl rfl
  | (k, v) :: r, tm', h, t => by
    unfold filtF at h
    split at h
    · rename_i r' hr
      have ih := filtF_ok (L := L) (g := g) hr t
      split at h
      · simp only [Option.some.injEq] at h
        subst h
        rw [lk_cons, lk_cons]
        split
        · exact .inl rfl
        · exact ih
      · rename_i hm
        simp only [Option.some.injEq] at h
        subst h
        rw [lk_cons, lk_cons]
        split
        · exact .inr (mentT_ok hm).symm
        · exact ih
    · cases h
theorem mentO_ok {L b : Nat} {g : Nat → Nat → SV} : ∀ {own : List (Nat × AObj)}, mentO b own = false → ∀ c o, alook own c = some o → o.sub L b g = o
  | [], _, c, o, ho => by cases ho
  | (k, .box e cs) :: r, h, c, o, ho => by
    unfold mentO at h
    split at h
    · cases h
    · rename_i hm
      rw [alook_cons] at ho
      split at ho
      · simp only [Option.some.injEq] at ho
        subst ho
        simp only [AObj.sub, map_sub hm]
      · exact mentO_ok h c o ho
  | (k, .row e esz es) :: r, h, c, o, ho => by
    unfold mentO at h
    rw [alook_cons] at ho
    split at ho
    · simp only [Option.some.injEq] at ho
      subst ho
      rfl
    · exact mentO_ok h c o ho

/-- The state behind an append in place, cleared. -/
theorem wk_kill {b : Nat} {o : AObj} (h1 : filtF b tm = some tm') (h2 : mentO b own = false) (h3 : aset own b o = some own') (h4 : liveB own' tm' = true) (h5 : liveOB own' own' = true) :
    Wk { ((St L n tm S own).kill b) with O := upd ((St L n tm S own).kill b).O L b (some o) } (St L n tm' S own') where
  L := rfl
  n := rfl
  tm := fun t => by
    rw [St_get]
    have : ASt.get { ((St L n tm S own).kill b) with O := upd ((St L n tm S own).kill b).O L b (some o) } t = (lk tm t).sub L b fun _ _ => .undef := by
      show look (mapTm _ tm) t = _
      rw [look_mapTm _ rfl, lk_eq]
      rfl
    rw [this]
    exact filtF_ok h1 t
  obj := fun l c q hq => by
    show upd (mapO L (AObj.sub L b _) (mkO S L own)) L b (some o) l c = some q
    have hq : mkO S L own' l c = some q := hq
    by_cases hl : l = L
    · subst hl
      rw [mkO_own, aset_look h3] at hq
      split at hq
      · rename_i e; subst e; rw [upd_same]; exact hq
      · rename_i e
        rw [upd_ne _ _ (by simp [e])]
        simp only [mapO, if_true, mkO_own, hq, Option.map_some, mentO_ok h2 c q hq]
    · simp only [mkO, if_neg hl] at hq
      rw [upd_ne _ _ (by simp [hl])]
      simp only [mapO, if_neg hl, mkO]
      exact hq
  low := fun l c hl => by
    have hl : l < L := hl
    show mkO S L own' l c = upd (mapO L _ (mkO S L own)) L b (some o) l c
    rw [upd_ne _ _ (by omega)]
    simp only [mapO]
    rw [if_neg (by omega), mkO_low _ _ _ hl, mkO_low _ _ _ hl]
  live := fun t => by rw [St_get]; exact liveB_ok h4 t
  box := fun c e cs ho => by
    have ho : mkO S L own' L c = _ := ho
    rw [mkO_own] at ho
    exact liveOB_ok h5 c e cs ho

/-- What is appended. -/
inductive News1 (tm : List (Nat × TV)) (own : List (Nat × AObj)) (L : Nat) (x : Operand) (e : TypeId) (sz : Nat) (es : List (List PV)) : Prop
  | row (h : evF tm x = some (row sz es))
  | own {b len : Nat} (h : evF tm x = some (.a (.s (.sl L b 0 len)))) (ho : alook own b = some (.row e sz es)) (hl : len = es.length)
theorem News1.ok {x : Operand} {e : TypeId} {sz : Nat} {es : List (List PV)} (h : News1 tm own L x e sz es) {F : List (List PV) → Prop} (hF : F es) : newsOf (St L n tm S own).O ((St L n tm S own).ev x) e sz F := by
  cases h with
  | row h => rw [evF_ok h]; exact ⟨rfl, hF⟩
  | own h ho hl =>
    rw [evF_ok h]
    refine ⟨es, (mkO_own S L own _).trans ho, ?_⟩
    subst hl
    simpa using hF

theorem st_append0 {t e : TypeId} {s x : Operand} {ei : TI} {p : List PV} {r : List (List PV)} (ho : alook own d = none) (ht : sliceT T t = some (e, ei)) (hz : Nat.blt 0 ei.size = true) (hs : evF tm s = some nilS) (hx : News1 tm own L x e ei.size (p :: r))
    (hb : (p :: r).length * ei.bytes ≤ 140737488355328 ∧ (p :: r).length ≤ maxLen) (hd : Nat.blt d n = true)
    (hk : aops P T ops rest Q (St L n ((d, .a (.s (.sl L d 0 (p :: r).length))) :: tm) S ((d, .row e ei.size (p :: r)) :: own))) :
    aop1 P T ops rest Q ⟨some d, .call ⟨.builtin .append, #[s, x], #[t, t]⟩, ty, pos, af, g⟩ (St L n tm S own) := by
  simp only [aop1, x1]
  refine .inl ⟨rfl, .inl ?_⟩
  show eAppend T (St L n tm S own) d t s x _
  unfold eAppend
  obtain ⟨ti, q1, q2, q3⟩ := sliceT_ok ht
  refine ⟨ti, e, ei, q1, q2, q3, Nat.le_of_ble_eq_true hz, hx.ok ?_⟩
  rw [evF_ok hs]
  refine ⟨hb.1, hb.2, ?_⟩
  rw [drop_St ho]
  refine .inl (.inl ?_)
  show ASt.put ⟨L, n, tm, upd (mkO S L own) L d (some (.row e ei.size (p :: r)))⟩ (some d) _ _
  rw [mkO_upd]
  exact put_some hd hk

theorem st_append1 {t e : TypeId} {s x : Operand} {ei : TI} {b len : Nat} {es es2 es3 : List (List PV)} (ht : sliceT T t = some (e, ei)) (hz : Nat.blt 0 ei.size = true) (hs : evF tm s = some (.a (.s (.sl L b 0 len)))) (hb : alook own b = some (.row e ei.size es)) (hl : len = es.length)
    (hx : News1 tm own L x e ei.size es2) (he : es ++ es2 = es3) (hm : es3.length * ei.bytes ≤ 140737488355328 ∧ es3.length ≤ maxLen)
    (h1 : filtF b tm = some tm') (h2 : mentO b own = false) (h3 : aset own b (.row e ei.size es3) = some own') (h4 : liveB own' tm' = true) (h5 : liveOB own' own' = true) (h6 : hasO own' b = true) (hd : Nat.blt d n = true)
    (hk : aops P T ops rest Q (St L n ((d, .a (.s (.sl L b 0 es3.length))) :: tm') S own')) :
    aop1 P T ops rest Q ⟨some d, .call ⟨.builtin .append, #[s, x], #[t, t]⟩, ty, pos, af, g⟩ (St L n tm S own) := by
  simp only [aop1, x1]
  refine .inl ⟨rfl, .inl ?_⟩
  show eAppend T (St L n tm S own) d t s x _
  unfold eAppend
  obtain ⟨ti, q1, q2, q3⟩ := sliceT_ok ht
  refine ⟨ti, e, ei, q1, q2, q3, Nat.le_of_ble_eq_true hz, hx.ok ?_⟩
  rw [evF_ok hs]
  subst he
  rw [List.length_append] at hm
  refine ⟨rfl, rfl, es, (mkO_own S L own b).trans hb, hl, hm.1, hm.2, ?_⟩
  refine .inr ⟨_, wk_kill h1 h2 h3 h4 h5, ?_, ?_⟩
  · intro _
    exact hasO_ok h6
  · exact put_some hd hk
end
end Go.Rd
