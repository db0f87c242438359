/- RD, part 19d: steps: a loop over a function. -/
import Derived.Test.YtiollkejojdplaaRdStep6
namespace Go.Rd
open Go.RowKit Go.Proofs

section
variable {P : Program} {T : TypeId → Option TI} {L n : Nat} {tm tm' : List (Nat × TV)} {S : Store} {own own' : List (Nat × AObj)} {Q : Exit → ASt → Prop}

theorem lk_all {p : Nat → Bool} : ∀ {tm : List (Nat × TV)}, (tm.all fun x => p x.1) = true → ∀ t, lk tm t = .undef ∨ p t = true
  | [], _, _ => .inl rfl
  | (k, v) :: r, h, t => by
    simp only [List.all_cons, Bool.and_eq_true] at h
    unfold lk
    cases hb : Nat.beq t k with
    | true => exact .inr (by rw [Nat.eq_of_beq_eq_true hb]; exact h.1)
    | false => exact lk_all h.2 t

/-- What is owed behind a round. -/
def kF {β : Type} (I : β → Prop) (ownI : β → List (Nat × AObj)) (L n : Nat) (S : Store) (tm' : List (Nat × TV)) (own0 : List (Nat × AObj)) (W : Nat → Bool) (Q : Exit → ASt → Prop) : Exit → ASt → Prop :=
  roundK Q (fun O => ∃ b, I b ∧ O = mkO S L (ownI b)) (St L n tm' S own0) W

theorem c_range {β : Type} {g : Operand} {ps : Array Tmp} {assign body : Code} {f : FuncId} {css : List (List PV)} {xs : List (List AV)} {mv : List (Tmp × Tmp)} (I : Nat → β → Prop) (tm' : List (Nat × TV)) (ownI : β → List (Nat × AObj)) (b0 : β)
    (hg : evF tm g = some (.a (.s (.pv (.clo f css))))) (hit : Iter P f css xs) (hmv : movesOf assign = some mv) (hps : (ps.toList.all fun p => Nat.blt p n) = true) (hmvn : (mv.all fun p => Nat.blt p.1 n) = true) (hlen : ∀ x ∈ xs, x.length = ps.size)
    (h0 : I 0 b0) (h1 : agree tm tm') (h2 : oagree own (ownI b0)) (h3 : liveB (ownI b0) tm' = true) (h4 : liveOB (ownI b0) (ownI b0) = true)
    (hr : ∀ (k : Nat) (x : List AV) (b : β), xs[k]? = some x → I k b → awp P T true body (kF (I (k + 1)) ownI L n S tm' (ownI b0) (writesR ps.toList mv body) Q) (mvTm (psTm (St L n tm' S (ownI b)) ps.toList x) mv))
    (hd : ∀ b, I xs.length b → Q .normal (St L n tm' S (ownI b))) : awp P T false (.rangeFunc g ps assign body) Q (St L n tm S own) := by
  refine ⟨rfl, St L n tm' S (ownI b0), f, css, xs, fun k O => ∃ b, I k b ∧ O = mkO S L (ownI b), mv, .inr (wk_St h1 h2 h3 h4), evF_ok hg, hit, hmv, hlen, fun p hp => ?_, fun p hp => ?_, ⟨b0, h0, rfl⟩, ?_, ?_⟩
  · exact Nat.le_of_ble_eq_true (List.all_eq_true.1 hps p hp)
  · exact Nat.le_of_ble_eq_true (List.all_eq_true.1 hmvn p hp)
  · rintro k x O hx ⟨b, hb, rfl⟩
    exact hr k x b hx hb
  · rintro O ⟨b, hb, rfl⟩
    exact hd b hb

variable {β : Type} {I : β → Prop} {ownI : β → List (Nat × AObj)} {own0 : List (Nat × AObj)} {W : Nat → Bool}
theorem kF_back (own3 : List (Nat × AObj)) (hw : (tm'.all fun x => !W x.1) = true) : ∀ t, (St L n tm' S own0).get t = .undef ∨ (W t = false ∧ (St L n tm' S own3).get t = (St L n tm' S own0).get t) := by
  intro t
  rw [St_get, St_get]
  rcases lk_all (p := fun t => !W t) hw t with h | h
  · exact .inl h
  · exact .inr ⟨by simpa using h, rfl⟩
theorem kF_next (b' : β) (hi : I b') (hw : (tm'.all fun x => !W x.1) = true) (h1 : agree tm tm') (h2 : oagree own (ownI b')) (h3 : liveB (ownI b') tm' = true) (h4 : liveOB (ownI b') (ownI b') = true) :
    kF I ownI L n S tm' own0 W Q .normal (St L n tm S own) :=
  ⟨St L n tm' S (ownI b'), .inr (wk_St h1 h2 h3 h4), kF_back _ hw, b', hi, rfl⟩
theorem kF_ret (own3 : List (Nat × AObj)) (hw : (tm'.all fun x => !W x.1) = true) (h1 : agree tm tm') (h2 : oagree own own3) (h3 : liveB own3 tm' = true) (h4 : liveOB own3 own3 = true) (hq : Q .ret (St L n tm' S own3)) :
    kF I ownI L n S tm' own0 W Q .ret (St L n tm S own) :=
  ⟨St L n tm' S own3, .inr (wk_St h1 h2 h3 h4), kF_back _ hw, hq⟩
theorem kF_exit {id : Nat} (own3 : List (Nat × AObj)) (hw : (tm'.all fun x => !W x.1) = true) (h1 : agree tm tm') (h2 : oagree own own3) (h3 : liveB own3 tm' = true) (h4 : liveOB own3 own3 = true) (hq : Q (.exit id) (St L n tm' S own3)) :
    kF I ownI L n S tm' own0 W Q (.exit id) (St L n tm S own) :=
  ⟨St L n tm' S own3, .inr (wk_St h1 h2 h3 h4), kF_back _ hw, hq⟩

/-! ### functions of the model that have no body -/
variable {ops rest : List Oper} {Q : ASt → Prop} {d : Tmp} {ty : TypeId} {pos : String} {af : Array Edge} {g : Option (Nat × Bool)}
theorem st_ext {fop : Operand} {xs : List Operand} {ts : Array TypeId} {f : FuncId} {avs : List AV} {v : TV} (hf : evF tm fop = some (.a (.s (.clo f [])))) (hx : argsN tm xs = some avs) (hd : Nat.blt d n = true) (hA : Ext P f avs (mkO S L own) v)
    (hk : aops P T ops rest Q (St L n ((d, v) :: tm) S own)) : aop1 P T ops rest Q ⟨some d, .call ⟨.value fop, xs.toArray, ts⟩, ty, pos, af, g⟩ (St L n tm S own) := by
  simp only [aop1, x1, Option.getD_some]
  exact .inr ⟨f, avs, v, evF_ok hf, argsN_ok xs hx, hA, put_some hd hk⟩

/-- append of a make, to a slice over a row of a caller, where there is no room. -/
theorem st_appendZ {t t' e : TypeId} {ei : TI} {s x : Operand} {l0 b len cap m : Nat} {k : IntKind} {es es2 : List (List PV)} {nn : Int} {k' : IntKind} (hs : evF tm s = some (.a (.s (.slc l0 b 0 len cap)))) (hT : TOk P T) (ht : sliceT T t = some (e, ei)) (ht' : intT T t' = some k) (hz : Nat.blt 0 ei.size = true)
    (hl : l0 < L) (ho : S l0 b = some (.row e ei.size es)) (hdd : alook own d = none) (hx : evF tm x = some (lit (.int k' nn))) (hnn : nn = m) (hpos : 0 < m) (hle : len ≤ es.length) (hm : len + m ≤ maxLen) (hd : Nat.blt d n = true) (hroom : cap < len + m)
    (he : es.take len ++ List.replicate m (ei.zero.map .lit) = es2) (hby : (len + m) * ei.bytes ≤ 140737488355328)
    (hk : aops P T ops rest Q (St L n ((d, .a (.s (.sl L d 0 es2.length))) :: tm) S ((d, .row e ei.size es2) :: own))) :
    aop1 P T ops rest Q ⟨some d, .call ⟨.builtin .append, #[s, x], #[t, t']⟩, ty, pos, af, g⟩ (St L n tm S own) := by
  subst hnn
  simp only [aop1, x1]
  refine .inr ?_
  show eAppendZ P T (St L n tm S own) d t t' s x _
  obtain ⟨ti, q1, q2, q3⟩ := sliceT_ok ht
  refine ⟨ti, e, ei, k, q1, q2, q3, Nat.le_of_ble_eq_true hz, intT_ok hT ht', ?_⟩
  rw [evF_ok hs, evF_ok hx]
  refine ⟨by omega, es, (mkO_low _ _ _ hl).trans ho, hle, hm, hroom, hby, ?_⟩
  rw [drop_St hdd, Int.toNat_natCast, he]
  refine .inl (.inl ?_)
  show ASt.put ⟨L, n, tm, upd (mkO S L own) L d _⟩ (some d) _ _
  rw [mkO_upd]
  exact put_some hd hk

/-- copy, into a row of the call's own. -/
theorem st_copyO {dst : Option Tmp} {t t2 e : TypeId} {ei : TI} {x y : Operand} {b off len m : Nat} {es news es2 : List (List PV)} {vy : TV} (hx : evF tm x = some (.a (.s (.sl L b off len)))) (ht : sliceT T t = some (e, ei)) (hz : Nat.blt 0 ei.size = true)
    (ho : alook own b = some (.row e ei.size es)) (hy : evF tm y = some vy) (hs : SrcR (mkO S L own) vy e ei.size len m news) (hoff : off ≤ es.length) (hm : off + news.length ≤ maxLen) (he : over es off news = es2) (h2 : aset own b (.row e ei.size es2) = some own')
    (hk : (St L n tm S own').put dst (int ((min m len : Nat) : Int)) (aops P T ops rest Q)) :
    aop1 P T ops rest Q ⟨dst, .call ⟨.builtin .copy, #[x, y], #[t, t2]⟩, ty, pos, af, g⟩ (St L n tm S own) := by
  simp only [aop1, x1]
  show eCopy T (St L n tm S own) t x y (fun v st' => st'.put dst v (aops P T ops rest Q))
  obtain ⟨ti, q1, q2, q3⟩ := sliceT_ok ht
  refine ⟨ti, e, ei, q1, q2, q3, Nat.le_of_ble_eq_true hz, ?_⟩
  rw [evF_ok hx, evF_ok hy]
  refine ⟨es, (mkO_own _ _ _ _).trans ho, hs _ ⟨hoff, hm, ?_⟩⟩
  rw [he]
  have e1 : ({ (St L n tm S own) with O := upd (St L n tm S own).O L b (some (.row e ei.size es2)) } : ASt) = St L n tm S own' := by
    show (⟨L, n, tm, upd (mkO S L own) L b _⟩ : ASt) = _
    rw [mkO_aset h2]
    rfl
  rw [e1]
  exact hk
/-- Slicing a row of the call's own. -/
theorem st_slO {t e e' : TypeId} {ei : TI} {x : Operand} {lo hi : Option Operand} {l0 b off len : Nat} {l h : Int} {es : List (List PV)} (off' len' : Nat) (hx : evF tm x = some (.a (.s (.sl l0 b off len)))) (ht : sliceT T t = some (e, ei))
    (hl : boundF tm lo 0 = some l) (hh : boundF tm hi len = some h) (ho : mkO S L own l0 b = some (.row e' ei.size es)) (hd : Nat.blt d n = true) (hb : 0 ≤ l ∧ l ≤ h ∧ h ≤ len ∧ (l = 0 ∨ l < len)) (e1 : off + l.toNat = off' ∧ h.toNat - l.toNat = len')
    (hk : aops P T ops rest Q (St L n ((d, .a (.s (.sl l0 b off' len'))) :: tm) S own)) :
    aop1 P T ops rest Q ⟨some d, .slice t x lo hi none, ty, pos, af, g⟩ (St L n tm S own) := by
  obtain ⟨rfl, rfl⟩ := e1
  simp only [aop1, x1]
  refine .inl ⟨rfl, ?_⟩
  obtain ⟨ti, q1, q2, q3⟩ := sliceT_ok ht
  rw [evF_ok hx]
  refine ⟨ti, q1, ?_⟩
  rw [q2]
  exact boundF_ok hl (boundF_ok hh ⟨⟨ei, q3, e', es, ho⟩, hb.1, hb.2.1, hb.2.2.1, hb.2.2.2, put_some hd hk⟩)

theorem st_max {dst : Tmp} {x y : Operand} {t t2 : TypeId} {a b : Int} (hx : evF tm x = some (int a)) (hy : evF tm y = some (int b)) (hd : Nat.blt dst n = true) (hk : aops P T ops rest Q (St L n ((dst, int (if b > a then b else a)) :: tm) S own)) :
    aop1 P T ops rest Q ⟨some dst, .call ⟨.builtin .max, #[x, y], #[t, t2]⟩, ty, pos, af, g⟩ (St L n tm S own) := by
  simp only [aop1, x1]
  show qMinMax true [(St L n tm S own).ev x, (St L n tm S own).ev y] (fun v => (St L n tm S own).put (some dst) v (aops P T ops rest Q))
  rw [evF_ok hx, evF_ok hy]
  exact put_some hd hk
theorem st_min {dst : Tmp} {x y : Operand} {t t2 : TypeId} {a b : Int} (hx : evF tm x = some (int a)) (hy : evF tm y = some (int b)) (hd : Nat.blt dst n = true) (hk : aops P T ops rest Q (St L n ((dst, int (if b < a then b else a)) :: tm) S own)) :
    aop1 P T ops rest Q ⟨some dst, .call ⟨.builtin .min, #[x, y], #[t, t2]⟩, ty, pos, af, g⟩ (St L n tm S own) := by
  simp only [aop1, x1]
  show qMinMax false [(St L n tm S own).ev x, (St L n tm S own).ev y] (fun v => (St L n tm S own).put (some dst) v (aops P T ops rest Q))
  rw [evF_ok hx, evF_ok hy]
  exact put_some hd hk

/-- A sum first, whichever order. -/
theorem d_add {fuel : Nat} {listed : Array Bool} (i : Nat) {d : Tmp} {t t2 : TypeId} {x y : Operand} {ty : TypeId} {pos : String} {af : Array Edge} {a b : Int} {Q : ASt → Prop} (ho : ops[i]? = some ⟨some d, .binOp .add t x y t2, ty, pos, af, none⟩)
    (hs : Region.noSelect ops.toArray = true) (hf : Region.free .any ops.toArray listed i = true) (hr : (Region.ready .any ops.toArray listed).contains i = true) (hx : evF tm x = some (int a)) (hy : evF tm y = some (int b)) (hd : Nat.blt d n = true)
    (h1 : -9223372036854775808 ≤ a + b ∧ a + b ≤ 9223372036854775807)
    (h : dany P T false ops fuel (listed.setIfInBounds i true) Q (St L n ((d, int (a + b)) :: tm) S own)) : dany P T false ops (fuel + 1) listed Q (St L n tm S own) := by
  refine .inr (.inl ⟨rfl, i, _, ho, rfl, hs, hf, hr, ?_⟩)
  show xq P T (St L n tm S own) (.binOp .add t x y t2) fun v => (St L n tm S own).put (some d) v (dany P T false ops fuel (listed.setIfInBounds i true) Q)
  show qBin P .add t ((St L n tm S own).ev x) ((St L n tm S own).ev y) _
  rw [evF_ok hx, evF_ok hy]
  have := wrap_id h1.1 h1.2
  refine ⟨.inl rfl, ?_⟩
  show (St L n tm S own).put (some d) (lit (.int .i64 (IntKind.i64.wrap (a + b)))) _
  rw [this]
  exact put_some hd h

/-- Each of the ready ones. -/
def AllR (P : Program) (T : TypeId → Option TI) (rd : Bool) (ops : List Oper) (fuel : Nat) (listed : Array Bool) (Q : ASt → Prop) (st : ASt) : List Nat → Prop
  | [] => True
  | i :: r => (∃ o, ops[i]? = some o ∧ wantK ops st o (fun st => x1 P T st (o.dst.getD st.n) o.op fun v st' => st'.put o.dst v (dany P T rd ops fuel (listed.setIfInBounds i true) Q)) (fun st => st.put o.dst (.tup []) (dany P T rd ops fuel (listed.setIfInBounds i true) Q))) ∧
      AllR P T rd ops fuel listed Q st r
theorem allR_mem {rd : Bool} {fuel : Nat} {listed : Array Bool} {Q : ASt → Prop} {st : ASt} : ∀ {rs : List Nat}, AllR P T rd ops fuel listed Q st rs → ∀ i ∈ rs, ∃ o, ops[i]? = some o ∧ wantK ops st o (fun st => x1 P T st (o.dst.getD st.n) o.op fun v st' => st'.put o.dst v (dany P T rd ops fuel (listed.setIfInBounds i true) Q)) (fun st => st.put o.dst (.tup []) (dany P T rd ops fuel (listed.setIfInBounds i true) Q))
  | [], _, i, hi => by cases hi
  | j :: r, h, i, hi => by
    rcases List.mem_cons.1 hi with rfl | hi
    · exact h.1
    · exact allR_mem h.2 i hi
theorem d_rs {rd : Bool} {fuel : Nat} {listed : Array Bool} {Q : ASt → Prop} {st : ASt} (rs : List Nat) (hr : Region.ready .any ops.toArray listed = rs) (hne : rs.isEmpty = false) (h : AllR P T rd ops fuel listed Q st rs) : dany P T rd ops (fuel + 1) listed Q st :=
  .inr (.inr ⟨rs, hr, by rintro rfl; simp at hne, allR_mem h⟩)
theorem allR_nil {rd : Bool} {fuel : Nat} {listed : Array Bool} {Q : ASt → Prop} {st : ASt} : AllR P T rd ops fuel listed Q st [] := trivial
theorem allR_cons {rd : Bool} {fuel : Nat} {listed : Array Bool} {Q : ASt → Prop} {st : ASt} {i : Nat} {r : List Nat} {dst : Option Tmp} {op : Op} {ty : TypeId} {pos : String} {af : Array Edge} (ho : ops[i]? = some ⟨dst, op, ty, pos, af, none⟩)
    (h1 : aop1 P T ops [] (dany P T rd ops fuel (listed.setIfInBounds i true) Q) ⟨dst, op, ty, pos, af, none⟩ st) (h2 : AllR P T rd ops fuel listed Q st r) : AllR P T rd ops fuel listed Q st (i :: r) :=
  ⟨⟨_, ho, h1⟩, h2⟩

/-- A call that is handed rows as they are, and hands back a value or a new row. -/
theorem st_callNO {fop : Operand} {xs : List Operand} {ts : Array TypeId} {f : FuncId} {avs : List AV} {R : RV → Store → Prop} (ho : alook own d = none) (hf : evF tm fop = some (.a (.s (.clo f [])))) (hx : argsN tm xs = some avs)
    (hd : Nat.blt d n = true) (hA : AC P (L + 1) f avs (mkO S L own) R)
    (hk : ∀ r S', R r S' → (∃ tv own', r = .val tv ∧ S' = mkO S L own' ∧ aops P T ops rest Q (St L n ((d, tv) :: tm) S own')) ∨
      ∃ e esz es, r = .own e esz es ∧ S' = mkO S L own ∧ aops P T ops rest Q (St L n ((d, .a (.s (.sl L d 0 es.length))) :: tm) S ((d, .row e esz es) :: own))) :
    aop1 P T ops rest Q ⟨some d, .call ⟨.value fop, xs.toArray, ts⟩, ty, pos, af, g⟩ (St L n tm S own) := by
  simp only [aop1, x1, Option.getD_some]
  refine .inl (.inr ?_)
  unfold acallAt
  rw [drop_St ho, evF_ok hf]
  refine ⟨avs, R, argsN_ok xs hx, by rw [List.map_nil, List.append_nil]; exact hA, fun r S' hr => ?_⟩
  rcases hk r S' hr with ⟨tv, own', rfl, rfl, h⟩ | ⟨e, esz, es, rfl, rfl, h⟩
  · exact .inl ⟨Nat.le_of_ble_eq_true hd, h⟩
  · refine ⟨(mkO_own _ _ _ _).trans ho, .inl ⟨Nat.le_of_ble_eq_true hd, ?_⟩⟩
    show aops P T ops rest Q ⟨L, n, _, upd (mkO S L own) L d _⟩
    rw [mkO_upd]
    exact h

theorem d_takeQ (hT : TOk P T) {fuel : Nat} {listed : Array Bool} {Q : ASt → Prop} (i : Nat) {d : Tmp} {op : Op} {ty : TypeId} {pos : String} {af : Array Edge} {v : TV} (hr : (Region.ready .any ops.toArray listed).contains i = true) (ho : ops[i]? = some ⟨some d, op, ty, pos, af, none⟩) (hl : isLoad op = false) (hq : isQ ⟨some d, op, ty, pos, af, none⟩ = true)
    (hf : Region.free .any ops.toArray listed i = true) (hs : Region.noSelect ops.toArray = true) (hv : xqf T tm op = some v) (hd : Nat.blt d n = true)
    (h : dany P T false ops fuel (listed.setIfInBounds i true) Q (St L n ((d, v) :: tm) S own)) : dany P T false ops (fuel + 1) listed Q (St L n tm S own) :=
  d_take hT i ho hl hq hs hf hr hv hd h

/-- What is appended, wherever it lies. -/
def NewsA (O : Store) (v : TV) (e : TypeId) (sz : Nat) (news : List (List PV)) : Prop := ∀ F : List (List PV) → Prop, F news → newsOf O v e sz F
theorem NewsA.row {O : Store} {e : TypeId} {sz : Nat} {es : List (List PV)} : NewsA O (row sz es) e sz es := fun _ hF => ⟨rfl, hF⟩
theorem NewsA.sl {O : Store} {e : TypeId} {sz l b off m : Nat} {es : List (List PV)} (ho : O l b = some (.row e sz es)) : NewsA O (.a (.s (.sl l b off m))) e sz ((es.drop off).take m) := fun _ hF => ⟨es, ho, hF⟩
/-- append to nil, of something. -/
theorem st_append0A {t e : TypeId} {s x : Operand} {ei : TI} {vx : TV} {p : List PV} {r : List (List PV)} (ho : alook own d = none) (ht : sliceT T t = some (e, ei)) (hz : Nat.blt 0 ei.size = true) (hs : evF tm s = some nilS) (hx : evF tm x = some vx) (hn : NewsA (mkO S L own) vx e ei.size (p :: r))
    (hb : (p :: r).length * ei.bytes ≤ 140737488355328 ∧ (p :: r).length ≤ maxLen) (hd : Nat.blt d n = true)
    (hk : aops P T ops rest Q (St L n ((d, .a (.s (.sl L d 0 (p :: r).length))) :: tm) S ((d, .row e ei.size (p :: r)) :: own))) :
    aop1 P T ops rest Q ⟨some d, .call ⟨.builtin .append, #[s, x], #[t, t]⟩, ty, pos, af, g⟩ (St L n tm S own) := by
  simp only [aop1, x1]
  refine .inl ⟨rfl, .inl ?_⟩
  show eAppend T (St L n tm S own) d t s x _
  obtain ⟨ti, q1, q2, q3⟩ := sliceT_ok ht
  refine ⟨ti, e, ei, q1, q2, q3, Nat.le_of_ble_eq_true hz, ?_⟩
  rw [evF_ok hx]
  refine hn _ ?_
  rw [evF_ok hs]
  refine ⟨hb.1, hb.2, ?_⟩
  rw [drop_St ho]
  refine .inl (.inl ?_)
  show ASt.put ⟨L, n, tm, upd (mkO S L own) L d _⟩ (some d) _ _
  rw [mkO_upd]
  exact put_some hd hk
/-- Slicing nil. -/
theorem st_slnil {t e : TypeId} {ei : TI} {x : Operand} {lo hi : Option Operand} (hx : evF tm x = some nilS) (ht : sliceT T t = some (e, ei)) (hl : boundF tm lo 0 = some 0) (hh : boundF tm hi 0 = some 0) (hd : Nat.blt d n = true)
    (hk : aops P T ops rest Q (St L n ((d, nilS) :: tm) S own)) : aop1 P T ops rest Q ⟨some d, .slice t x lo hi none, ty, pos, af, g⟩ (St L n tm S own) := by
  simp only [aop1, x1]
  refine .inl ⟨rfl, ?_⟩
  obtain ⟨ti, q1, q2, q3⟩ := sliceT_ok ht
  rw [evF_ok hx]
  refine ⟨ti, q1, ?_⟩
  rw [q2]
  exact boundF_ok hl (boundF_ok hh ⟨rfl, rfl, ⟨ei, q3⟩, put_some hd hk⟩)

/-- What a pure function hands back where it leads nowhere: for a call in a region that draws its order. -/
theorem acq {Q : ASt → Prop} {dst : Option Tmp} {fop : Operand} {xs : Array Operand} {ts : Array TypeId} {f : FuncId} {avs : List AV} {u : Value} {rest : List Oper} (hf : evF tm fop = some (.a (.s (.clo f [])))) (hx : argsN tm xs.toList = some avs) (hp : avs.all pureA = true)
    (hA : ACv P f avs fun v => v = lit u) (hu : u.oneCell' = true) (hk : (St L n tm S own).put dst (lit u) (qops P T ops rest Q)) :
    acallQ P (St L n tm S own) (.call ⟨.value fop, xs, ts⟩) (fun v => (St L n tm S own).put dst v (qops P T ops rest Q)) :=
  ⟨f, avs, u, evF_ok hf, argsN_ok _ hx, hp, ⟨1, (hA 1 (fun _ _ => none) (by decide)).mono (by rintro r S' ⟨rfl, v, rfl, rfl⟩; exact ⟨rfl, rfl⟩)⟩, hu, hk⟩

/-- The guard's own operation was left out. -/
theorem q_callO {Q : ASt → Prop} {d : Tmp} {op : Op} {ty : TypeId} {pos : String} {af : Array Edge} {j : Nat} {want : Bool} {t : Nat} (hg : gvU tm ops j = some t) (ht : Nat.blt t n = true) (hd : Nat.blt d n = true)
    (h1 : qops P T ops rest Q (St L n ((d, .tup []) :: tm) S own)) : qops P T ops (⟨some d, op, ty, pos, af, some (j, want)⟩ :: rest) Q (St L n tm S own) := by
  have q : (ops[j]?).bind (·.dst) = some t ∧ (St L n tm S own).get t = .tup [] := by
    unfold gvU at hg
    split at hg
    · rename_i o ho
      split at hg
      · rename_i t' ht'
        split at hg
        · rename_i hl
          simp only [Option.some.injEq] at hg
          subst hg
          exact ⟨by simp [ho, ht'], by rw [St_get]; exact hl⟩
        · cases hg
      · cases hg
    · cases hg
  show wantK ops _ _ _ _
  unfold wantK
  simp only [q.1, q.2]
  exact ⟨Nat.le_of_ble_eq_true ht, Nat.le_of_ble_eq_true hd, h1⟩
end
end Go.Rd
