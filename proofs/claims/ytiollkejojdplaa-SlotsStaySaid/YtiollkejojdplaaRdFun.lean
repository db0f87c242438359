/- RD, part 15: a function's contract, out of what is owed of its body. -/
import Derived.Test.YtiollkejojdplaaRdRange
namespace Go.Rd
open Go.RowKit Go.Proofs

section
variable {P : Program} {T : TypeId → Option TI} {w : World} {ι : Nat → Nat → Nat} {st : ASt} {a : Act}

/-- The objects below a level. -/
def cut (O : Store) (L : Nat) : Store := fun l b => if l < L then O l b else none

theorem cut_upd (O : Store) (L b : Nat) (o : Option AObj) : cut (upd O L b o) L = cut O L := by
  funext l c
  simp only [cut]
  split
  · rw [upd_ne _ _ (by omega)]
  · rfl
theorem cut_low (O : Store) {L l : Nat} (b : Nat) (o : Option AObj) (h : l < L) : cut (upd O l b o) L = upd (cut O L) l b o := by
  funext l' c
  simp only [cut, upd]
  by_cases hh : l' = l ∧ c = b
  · obtain ⟨rfl, rfl⟩ := hh; simp [h]
  · simp [hh]
theorem cut_mapO (O : Store) (L : Nat) (f : AObj → AObj) : cut (mapO L f O) L = cut O L := by
  funext l c
  simp only [cut, mapO]
  split
  · rw [if_neg (by omega)]
  · rfl
theorem cut_sup {S : Store} {L : Nat} (h : Sup S L) : cut S L = S := by
  funext l c
  simp only [cut]
  split
  · rfl
  · rw [h l c (by omega)]

def pvsOf : List SV → Option (List PV)
  | [] => some []
  | .pv p :: r => match pvsOf r with
    | some ps => some (p :: ps)
    | none => none
  | _ :: _ => none
/-- What captured variables of the call's own hold for good. -/
def capsPV (O : Store) (L : Nat) : List (Nat × Nat) → Option (List (List PV))
  | [] => some []
  | p :: r => if p.1 = L then match O p.1 p.2 with
    | some (.box _ cs) => match pvsOf cs with
      | some ps => match capsPV O L r with
        | some qs => some (ps :: qs)
        | none => none
      | none => none
    | _ => none
    else none
theorem pvsOf_map : ∀ {cs : List SV} {ps : List PV}, pvsOf cs = some ps → cs = ps.map .pv
  | [], ps, h => by simp only [pvsOf, Option.some.injEq] at h; subst h; rfl
  | c :: r, ps, h => by
    cases c with
    | pv p =>
      simp only [pvsOf] at h
      split at h
      · rename_i qs hq
        simp only [Option.some.injEq] at h
        subst h
        rw [List.map_cons, ← pvsOf_map hq]
      · cases h
    | _ => simp [pvsOf] at h

/-- What is left of a value behind its call. -/
def SV.fz (O : Store) (L : Nat) : SV → SV
  | .sl l b off len => if l = L then (match O l b with
    | some (.row _ esz es) => .pv (.row esz ((es.drop off).take len))
    | _ => .undef) else .sl l b off len
  | .slc l b off len cap => if l = L then .undef else .slc l b off len cap
  | .pr l b i j => if l = L then .undef else .pr l b i j
  | .pb l b j => if l = L then .undef else .pb l b j
  | .clo f caps => if caps.any (fun p => p.1 == L) then (match capsPV O L caps with
    | some css => .pv (.clo f css)
    | none => .undef) else .clo f caps
  | x => x
def AV.fz (O : Store) (L : Nat) : AV → AV
  | .s x => .s (x.fz O L)
  | .agg xs => .agg (xs.map (·.fz O L))
  | x => x
def TV.fz (O : Store) (L : Nat) : TV → TV
  | .undef => .undef
  | .a x => .a (x.fz O L)
  | .tup xs => .tup (xs.map (·.fz O L))

/-- The results. -/
def resK (T : TypeId → Option TI) (st : ASt) : List ResultVar → (List TV → Prop) → Prop
  | [], K => K []
  | .tmp t :: r, K => resK T st r fun vs => K (st.get t :: vs)
  | .cell ad t :: r, K => qLoad T st.O t (st.get ad) fun v => resK T st r fun vs => K (v :: vs)

def joinR (vs : List TV) : Option TV :=
  match vs with
  | [v] => some v
  | vs => (argsOf vs).map .tup

/-- The three ways in which a function hands back. -/
def exitVal (R : RV → Store → Prop) (st : ASt) (v : TV) : Prop := R (.val (v.fz st.O st.L)) (cut st.O st.L)
def exitOwn (R : RV → Store → Prop) (st : ASt) (v : TV) : Prop :=
  match v with
  | .a (.s (.sl l b off len)) => l = st.L ∧ off = 0 ∧ ∃ e esz es, st.O st.L b = some (.row e esz es) ∧ len = es.length ∧ R (.own e esz es) (cut st.O st.L)
  | _ => False
def exitOwnT (R : RV → Store → Prop) (st : ASt) (v : TV) : Prop :=
  match v with
  | .tup (.s (.sl l b off len) :: rest) => l = st.L ∧ off = 0 ∧ ∃ e esz es ps, st.O st.L b = some (.row e esz es) ∧ len = es.length ∧ rest = ps.map (fun p => .s (.pv p)) ∧ R (.ownT e esz es ps) (cut st.O st.L)
  | _ => False

def retQ (T : TypeId → Option TI) (rs : List ResultVar) (X : ASt → TV → Prop) : Exit → ASt → Prop
  | .normal, st => resK T st rs fun vs => ∃ v, joinR vs = some v ∧ X st v
  | .ret, st => resK T st rs fun vs => ∃ v, joinR vs = some v ∧ X st v
  | _, _ => False

def tmOf : Nat → List AV → List (Nat × TV)
  | _, [] => []
  | k, v :: r => (k, .a v) :: tmOf (k + 1) r

theorem look_tmOf : ∀ (args : List AV) (k t : Nat), look (tmOf k args) t = if k ≤ t ∧ t < k + args.length then (match args[t - k]? with | some v => .a v | none => .undef) else .undef
  | [], k, t => by simp [tmOf, look]
  | v :: r, k, t => by
    simp only [tmOf, look]
    split
    · rename_i e
      subst e
      rw [if_pos (by simp)]
      simp
    · rename_i e
      rw [look_tmOf r (k + 1) t]
      by_cases h : k + 1 ≤ t ∧ t < k + 1 + r.length
      · rw [if_pos h, if_pos (by simp only [List.length_cons]; omega)]
        rw [show t - k = (t - (k + 1)) + 1 by omega]
        simp
      · rw [if_neg h, if_neg (by simp only [List.length_cons]; omega)]

theorem capsPV_spec {O : Store} {L : Nat} : ∀ {caps : List (Nat × Nat)} {css : List (List PV)}, capsPV O L caps = some css → caps.length = css.length ∧ ∀ (i : Nat) (cs : List PV), css[i]? = some cs → ∃ p e, caps[i]? = some p ∧ p.1 = L ∧ O L p.2 = some (.box e (cs.map .pv))
  | [], css, h => by simp only [capsPV, Option.some.injEq] at h; subst h; exact ⟨rfl, fun i cs hi => by simp at hi⟩
  | p :: r, css, h => by
    unfold capsPV at h
    split at h
    · rename_i hp
      split at h
      · rename_i e cs hb
        split at h
        · rename_i ps hps
          split at h
          · rename_i qs hqs
            simp only [Option.some.injEq] at h
            subst h
            obtain ⟨h1, h2⟩ := capsPV_spec hqs
            refine ⟨by simp [h1], fun i c hi => ?_⟩
            cases i with
            | zero =>
              simp only [List.getElem?_cons_zero, Option.some.injEq] at hi
              subst hi
              refine ⟨p, e, rfl, hp, ?_⟩
              rw [← pvsOf_map hps, ← hb, hp]
            | succ i =>
              obtain ⟨p', e', q1, q2, q3⟩ := h2 i c (by simpa using hi)
              exact ⟨p', e', by simpa using q1, q2, q3⟩
          · cases h
        · cases h
      · cases h
    · cases h
theorem RepP.mk_clo {G : Nat → Prop} {f : FuncId} {css : List (List PV)} {vs : List Value} (hl : vs.length = css.length)
    (h : ∀ (i : Nat) (cs : List PV), css[i]? = some cs → ∃ k, vs[i]? = some (.pointer (some ⟨k, 0, none⟩)) ∧ G k ∧ ∀ (j : Nat) (x : PV), cs[j]? = some x → ∃ u, w.cell? ⟨k, j, none⟩ = some u ∧ RepP w G x u) : RepP w G (.clo f css) (.func (.func f) #[] vs.toArray) := by
  have hb : ∀ (i : Nat) (cs : List PV), css[i]? = some cs → ∃ k, vs[i]? = some (.pointer (some ⟨k, 0, none⟩)) ∧ G k ∧ (match vs[i]? with | some (.pointer (some a)) => a.block | _ => 0) = k ∧ ∀ (j : Nat) (x : PV), cs[j]? = some x → ∃ u, w.cell? ⟨k, j, none⟩ = some u ∧ RepP w G x u := by
    intro i cs hi
    obtain ⟨k, h1, h2, h3⟩ := h i cs hi
    exact ⟨k, h1, h2, by rw [h1], h3⟩
  refine .clo f css vs (fun i => match vs[i]? with | some (.pointer (some a)) => a.block | _ => 0) (fun i j => (w.cell? ⟨match vs[i]? with | some (.pointer (some a)) => a.block | _ => 0, j, none⟩).getD undef) hl ?_ ?_ ?_
  · intro i cs hi
    obtain ⟨k, h1, h2, h3, _⟩ := hb i cs hi
    rw [h3]
    exact ⟨h1, h2⟩
  · intro i j cs x hi hx
    obtain ⟨k, h1, h2, h3, h4⟩ := hb i cs hi
    obtain ⟨u, hu, _⟩ := h4 j x hx
    rw [h3, hu]
    rfl
  · intro i j cs x hi hx
    obtain ⟨k, h1, h2, h3, h4⟩ := hb i cs hi
    obtain ⟨u, hu, hr⟩ := h4 j x hx
    rw [h3, hu]
    exact hr

/-- The objects below the call's level are as represented without its own. -/
theorem RepS.turn {G G' : Nat → Prop} {ι' : Nat → Nat → Nat} {O O' : Store} {m : Nat} {s : SV} {v : Value} (h : RepS w G ι O s v) (hG : ∀ k, G k → G' k)
    (ht : ∀ l b o, l ≤ m → O l b = some o → O' l b = some o ∧ ι' l b = ι l b) (hlev : s.lev ≤ m) : RepS w G' ι' O' s v := by
  cases s with
  | undef => exact h
  | pv p => exact RepP.mono h (fun k hk => ⟨hG k hk, rfl⟩)
  | pb l b j =>
    obtain ⟨⟨e1, cs, ho⟩, rfl⟩ := h
    obtain ⟨h1, h2⟩ := ht l b _ hlev ho
    exact ⟨⟨_, _, h1⟩, by rw [h2]⟩
  | pr l b i j =>
    obtain ⟨e1, esz1, es1, ho, rfl⟩ := h
    obtain ⟨h1, h2⟩ := ht l b _ hlev ho
    exact ⟨_, _, _, h1, by rw [h2]⟩
  | sl l b off len =>
    obtain ⟨e1, esz1, es1, cap, c, ho, rfl, q1, q2, q3, q4, q5⟩ := h
    obtain ⟨h1, h2⟩ := ht l b _ hlev ho
    exact ⟨_, _, _, cap, c, h1, by rw [h2], q1, q2, q3, by rw [h2]; exact q4, q5⟩
  | slc l b off len cap =>
    obtain ⟨e1, esz1, es1, c, ho, rfl, q2, q3, q4, q5⟩ := h
    obtain ⟨h1, h2⟩ := ht l b _ hlev ho
    exact ⟨_, _, _, c, h1, by rw [h2], q2, q3, by rw [h2]; exact q4, q5⟩
  | clo f caps =>
    obtain ⟨rfl, hc⟩ := h
    have hle : ∀ p ∈ caps, p.1 ≤ m := by
      intro p hp
      have : p.1 ≤ (SV.clo f caps).lev := by
        simp only [SV.lev]
        clear hlev hc
        induction caps with
        | nil => cases hp
        | cons q r ih =>
          simp only [List.foldr_cons]
          rcases List.mem_cons.1 hp with rfl | hp
          · omega
          · have := ih hp; omega
      omega
    refine ⟨?_, fun p hp => ?_⟩
    · congr 2
      refine List.map_congr_left fun p hp => ?_
      obtain ⟨e1, cs, ho⟩ := hc p hp
      rw [(ht _ _ _ (hle p hp) ho).2]
    · obtain ⟨e1, cs, ho⟩ := hc p hp
      exact ⟨_, _, (ht _ _ _ (hle p hp) ho).1⟩

theorem RepO.turn {G G' : Nat → Prop} {ι' : Nat → Nat → Nat} {O O' : Store} {m k : Nat} {o : AObj} (h : RepO w G ι O k o) (hG : ∀ k, G k → G' k)
    (ht : ∀ l b o, l ≤ m → O l b = some o → O' l b = some o ∧ ι' l b = ι l b) (hlev : ∀ e cs, o = .box e cs → ∀ s ∈ cs, s.lev ≤ m) : RepO w G' ι' O' k o := by
  cases o with
  | row e1 esz1 es1 =>
    obtain ⟨c, q1, q2, q3, q4, q5⟩ := h
    exact ⟨c, q1, q2, q3, q4, fun i j x y hx hy => by
      obtain ⟨u, hu, hr⟩ := q5 i j x y hx hy
      exact ⟨u, hu, hr.mono (fun k hk => ⟨hG k hk, rfl⟩)⟩⟩
  | box e1 cs =>
    obtain ⟨c, q1, q2, q3⟩ := h
    refine ⟨c, q1, q2, fun j y hy => ?_⟩
    obtain ⟨u, hu, hr⟩ := q3 j y hy
    exact ⟨u, hu, hr.turn hG ht (hlev e1 cs rfl y (List.mem_of_getElem? hy))⟩

theorem fz_rep (h : Good st a w ι) (_hL : 0 < st.L) {s : SV} {v : Value} (hr : RepS w (Gd w ι st.O) ι st.O s v) : RepS w (Gd w ι (cut st.O st.L)) ι (cut st.O st.L) (s.fz st.O st.L) v := by
  have hG : ∀ k, Gd w ι st.O k → Gd w ι (cut st.O st.L) k := by
    rintro k ⟨h1, h2⟩
    refine ⟨h1, fun ⟨l, b, o, h3, h4⟩ => h2 ?_⟩
    simp only [cut] at h3
    split at h3
    · exact ⟨l, b, o, h3, h4⟩
    · cases h3
  have ht : ∀ l b o, l ≤ st.L - 1 → st.O l b = some o → cut st.O st.L l b = some o ∧ ι l b = ι l b := by
    intro l b o hl ho
    refine ⟨?_, rfl⟩
    simp only [cut]
    rw [if_pos (by omega)]; exact ho
  have hone := hr.one
  cases s with
  | undef => exact hr
  | pv p => exact RepP.mono hr (fun k hk => ⟨hG k hk, rfl⟩)
  | sl l b off len =>
    simp only [SV.fz]
    have hle := RepS.lev_le h hr
    split
    · rename_i e
      subst e
      obtain ⟨e1, esz1, es1, cap, c, ho1, rfl, q1, q2, q3, q4, q5⟩ := hr
      simp only [ho1]
      obtain ⟨c', p1, p2, p3, p4, p5⟩ := h.lies.obj _ _ _ ho1
      rw [q4] at p1
      simp only [Option.some.injEq, Obj.cells.injEq, and_true] at p1
      obtain ⟨rfl, _⟩ := p1
      have hlen : ((es1.drop off).take len).length = len := by simp; omega
      have hrow : RowAt w (Gd w ι (cut st.O st.L)) esz1 ((es1.drop off).take len) (ι st.L b) (off * esz1) := by
        refine ⟨fun i x hx => ?_, fun _ => ⟨h.lies.lt ho1, fun ⟨l, c2, o', h3, h4⟩ => ?_⟩, by omega, fun i j x y hx hy => ?_⟩
        · rw [List.getElem?_take] at hx
          split at hx
          · rw [List.getElem?_drop] at hx; exact p2 _ x hx
          · cases hx
        · simp only [cut] at h3
          split at h3
          · obtain ⟨e1, _⟩ := h.lies.inj l c2 o' _ _ _ h3 ho1 h4
            omega
          · cases h3
        · rw [List.getElem?_take] at hx
          split at hx
          · rw [List.getElem?_drop] at hx
            obtain ⟨u, hu, hr⟩ := p5 _ j x y hx hy
            refine ⟨u, ?_, hr.mono (fun k hk => ⟨hG k hk, rfl⟩)⟩
            rw [cell_block q4, ← hu]
            congr 1
            rw [Nat.add_mul]
          · cases hx
      have := RepP.mk_row (cap := cap) (by omega) q3 hrow
      rw [hlen] at this
      exact this
    · exact hr.turn hG ht (by simp only [SV.lev] at hle ⊢; omega)
  | slc l b off len cap =>
    simp only [SV.fz]
    have hle := RepS.lev_le h hr
    split
    · exact hone
    · exact hr.turn hG ht (by simp only [SV.lev] at hle ⊢; omega)
  | pr l b i j =>
    simp only [SV.fz]
    have hle := RepS.lev_le h hr
    split
    · exact hone
    · exact hr.turn hG ht (by simp only [SV.lev] at hle ⊢; omega)
  | pb l b j =>
    simp only [SV.fz]
    have hle := RepS.lev_le h hr
    split
    · exact hone
    · exact hr.turn hG ht (by simp only [SV.lev] at hle ⊢; omega)
  | clo f caps =>
    simp only [SV.fz]
    have hle := RepS.lev_le h hr
    split
    · split
      · rename_i css hcss
        obtain ⟨rfl, hc⟩ := hr
        refine RepP.mk_clo (by simpa using (capsPV_spec hcss).1) fun i cs hi => ?_
        obtain ⟨p, e, q1, q2, q3⟩ := (capsPV_spec hcss).2 i cs hi
        obtain ⟨p1, p2⟩ := p
        simp only at q2
        subst q2
        obtain ⟨c, k1, k2, k3⟩ := h.lies.obj _ _ _ q3
        refine ⟨ι st.L p2, by rw [List.getElem?_map, q1]; rfl, ⟨h.lies.lt q3, fun ⟨l, c2, o', h3, h4⟩ => ?_⟩, fun j x hx => ?_⟩
        · simp only [cut] at h3
          split at h3
          · obtain ⟨e1, _⟩ := h.lies.inj l c2 o' _ _ _ h3 q3 h4
            omega
          · cases h3
        · obtain ⟨u, hu, hru⟩ := k3 j (.pv x) (by rw [List.getElem?_map, hx]; rfl)
          exact ⟨u, by rw [cell_block k1]; exact hu, RepP.mono hru (fun k hk => ⟨hG k hk, rfl⟩)⟩
      · exact hone
    · rename_i hany
      refine hr.turn hG ht ?_
      have hall : ∀ p ∈ caps, p.1 ≤ st.L - 1 := by
        intro p hp
        obtain ⟨_, hc⟩ := hr
        obtain ⟨e, cs, ho⟩ := hc p hp
        have h1 := h.sup _ _ _ ho
        have h2 : p.1 ≠ st.L := fun e => hany (List.any_eq_true.2 ⟨p, hp, by simp [e]⟩)
        omega
      simp only [SV.lev]
      clear hle hone hany hr
      induction caps with
      | nil => exact Nat.zero_le _
      | cons q r ih =>
        simp only [List.foldr_cons]
        have := hall q (by simp)
        have := ih (fun p hp => hall p (List.mem_cons_of_mem _ hp))
        omega

theorem fzA_rep (h : Good st a w ι) (hL : 0 < st.L) {s : AV} {v : Value} (hr : RepA w (Gd w ι st.O) ι st.O s v) : RepA w (Gd w ι (cut st.O st.L)) ι (cut st.O st.L) (s.fz st.O st.L) v := by
  cases s with
  | s x => exact fz_rep h hL hr
  | agg xs =>
    obtain ⟨cs, rfl, hl, hc⟩ := hr
    refine ⟨cs, rfl, by simpa using hl, fun j y hy => ?_⟩
    rw [List.getElem?_map] at hy
    cases hx : xs[j]? with
    | none => simp [hx] at hy
    | some x =>
      simp only [hx, Option.map_some, Option.some.injEq] at hy
      subst hy
      obtain ⟨u, hu, hr⟩ := hc j x hx
      exact ⟨u, hu, fz_rep h hL hr⟩
  | pel esz es i j =>
    obtain ⟨blk, off, hr, rfl⟩ := hr
    refine ⟨blk, off, hr.mono (fun k hk => ⟨⟨hk.1, fun ⟨l, b, o, h3, h4⟩ => hk.2 ?_⟩, rfl⟩), rfl⟩
    simp only [cut] at h3
    split at h3
    · exact ⟨l, b, o, h3, h4⟩
    · cases h3

theorem fzT_rep (h : Good st a w ι) (hL : 0 < st.L) {s : TV} {v : Value} (hr : RepT w (Gd w ι st.O) ι st.O s v) : RepT w (Gd w ι (cut st.O st.L)) ι (cut st.O st.L) (s.fz st.O st.L) v := by
  cases s with
  | undef => trivial
  | a x => exact fzA_rep h hL hr
  | tup xs =>
    obtain ⟨cs, rfl, hl, hc⟩ := hr
    refine ⟨cs, rfl, by simpa using hl, fun j y hy => ?_⟩
    rw [List.getElem?_map] at hy
    cases hx : xs[j]? with
    | none => simp [hx] at hy
    | some x =>
      simp only [hx, Option.map_some, Option.some.injEq] at hy
      subst hy
      obtain ⟨u, hu, hr⟩ := hc j x hx
      exact ⟨u, hu, fzA_rep h hL hr⟩

/-- The results, as the machine reads them. -/
theorem resK_sound (hT : TOk P T) (h : Good st a w ι) : ∀ (rs : List ResultVar) {K : List TV → Prop}, resK T st rs K →
    ∃ vs vals, K vs ∧ vals.length = vs.length ∧ (∀ (i : Nat) (y : TV) (u : Value), vs[i]? = some y → vals[i]? = some u → RepT w (Gd w ι st.O) ι st.O y u) ∧
      ((rs.mapM fun | ResultVar.tmp t => (pure (a.tmps.getD t undef) : Sem Value) | ResultVar.cell ad t => do loadVar t (← asAddr (a.tmps.getD ad undef)))).run P w = .ok vals w
  | [], K, hk => ⟨[], [], hk, rfl, by simp, rfl⟩
  | .tmp t :: r, K, hk => by
    obtain ⟨vs, vals, h1, h2, h3, h4⟩ := resK_sound hT h r hk
    refine ⟨_, a.tmps.getD t undef :: vals, h1, by simp [h2], fun i y u hy hu => ?_, ?_⟩
    · cases i with
      | zero =>
        simp only [List.getElem?_cons_zero, Option.some.injEq] at hy hu
        subst hy; subst hu
        exact h.ev (.tmp t)
      | succ i => exact h3 i y u (by simpa using hy) (by simpa using hu)
    · simp only [List.mapM_cons, Sem.run_bind, Sem.run_pure, Result.andThen_ok, h4]
  | .cell ad t :: r, K, hk => by
    obtain ⟨v, val, h1, h2, h3⟩ := qLoad_sound (B := fun w' => Below w.heap.size w w') hT (fun _ h => h) h.lies (h.ev (.tmp ad)) hk
    obtain ⟨vs, vals, k1, k2, k3, k4⟩ := resK_sound hT h r h1
    refine ⟨_, val :: vals, k1, by simp [k2], fun i y u hy hu => ?_, ?_⟩
    · cases i with
      | zero =>
        simp only [List.getElem?_cons_zero, Option.some.injEq] at hy hu
        subst hy; subst hu
        exact h2
      | succ i => exact k3 i y u (by simpa using hy) (by simpa using hu)
    · have hl := h3 w (Below.refl _ _)
      have he : a.eval (.tmp ad) = a.tmps.getD ad undef := rfl
      rw [he] at hl
      have hsame : (do loadVar t (← asAddr (a.tmps.getD ad undef)) : Sem Value).run P w = .ok val w := by
        revert hl
        cases a.tmps.getD ad undef with
        | pointer p =>
          cases p with
          | some q => intro hl; simpa [Instr.loadAt, Instr.sureAddr, asAddr] using hl
          | none => intro hl; simp [Instr.loadAt, Instr.sureAddr, stuck] at hl
        | _ => intro hl; simp [Instr.loadAt, Instr.sureAddr, stuck] at hl
      simp only [List.mapM_cons]
      rw [Sem.run_bind, hsame]
      simp only [Result.andThen_ok, Sem.run_bind, k4, Sem.run_pure]

/-- How one hands back: what is given up of the call's own objects, and what the caller gets. -/
def Hands (X : (RV → Store → Prop) → ASt → TV → Prop) : Prop :=
  ∀ (R : RV → Store → Prop) (st : ASt) (v : TV), X R st v → ∀ (a : Act) (w : World) (ι : Nat → Nat → Nat) (val : Value), Good st a w ι → 0 < st.L → RepT w (Gd w ι st.O) ι st.O v val →
    ∃ r S' ι', R r S' ∧ S' = cut st.O st.L ∧ Lies w ι' (r.store st.L S') ∧ (∀ l b o, r.store st.L S' l b = some o → ∃ l2 b2 o2, st.O l2 b2 = some o2 ∧ ι l2 b2 = ι' l b) ∧
      (∀ l b, l < st.L → ι' l b = ι l b ∧ r.store st.L S' l b = st.O l b) ∧ RepT w (Gd w ι' (r.store st.L S')) ι' (r.store st.L S') (r.tv st.L) val

theorem lies_cut (h : Good st a w ι) (hL : 0 < st.L) : Lies w ι (cut st.O st.L) := by
  have hG : ∀ k, Gd w ι st.O k → Gd w ι (cut st.O st.L) k := by
    rintro k ⟨h1, h2⟩
    refine ⟨h1, fun ⟨l, b, o, h3, h4⟩ => h2 ?_⟩
    simp only [cut] at h3
    split at h3
    · exact ⟨l, b, o, h3, h4⟩
    · cases h3
  refine ⟨fun l b o ho => ?_, fun l b o l2 b2 o2 h1 h2 e => ?_⟩
  · simp only [cut] at ho
    split at ho
    · rename_i hl
      refine (h.lies.obj l b o ho).turn (m := st.L - 1) hG (fun l b o hl ho => ⟨by simp only [cut]; rw [if_pos (by omega)]; exact ho, rfl⟩) ?_
      rintro e cs rfl s hs
      have := h.lev l b e cs ho s hs
      omega
    · cases ho
  · simp only [cut] at h1 h2
    split at h1
    · split at h2
      · exact h.lies.inj _ _ _ _ _ _ h1 h2 e
      · cases h2
    · cases h1

theorem hands_val : Hands exitVal := by
  intro R st v hx a w ι val h hL hr
  refine ⟨_, _, ι, hx, rfl, lies_cut h hL, fun l b o ho => ?_, fun l b hl => ⟨rfl, ?_⟩, fzT_rep h hL hr⟩
  · have ho' : cut st.O st.L l b = some o := ho
    simp only [cut] at ho'
    split at ho'
    · exact ⟨l, b, o, ho', rfl⟩
    · cases ho'
  · show cut st.O st.L l b = _
    simp only [cut]; rw [if_pos hl]

/-- The row that is handed back lies at the call's level, place 0. -/
theorem export_row (h : Good st a w ι) (hL : 0 < st.L) {b : Nat} {e : TypeId} {esz : Nat} {es : List (List PV)} (ho : st.O st.L b = some (.row e esz es)) :
    Lies w (iupd ι st.L 0 (ι st.L b)) (upd (cut st.O st.L) st.L 0 (some (.row e esz es))) ∧
    (∀ l c o, upd (cut st.O st.L) st.L 0 (some (.row e esz es)) l c = some o → ∃ l2 b2 o2, st.O l2 b2 = some o2 ∧ ι l2 b2 = iupd ι st.L 0 (ι st.L b) l c) ∧
    (∀ k, Gd w ι st.O k → Gd w (iupd ι st.L 0 (ι st.L b)) (upd (cut st.O st.L) st.L 0 (some (.row e esz es))) k) := by
  have hlow : ∀ l c o, cut st.O st.L l c = some o → l < st.L ∧ st.O l c = some o := by
    intro l c o hc
    simp only [cut] at hc
    split at hc
    · rename_i hl; exact ⟨hl, hc⟩
    · cases hc
  have hback : ∀ l c o, upd (cut st.O st.L) st.L 0 (some (.row e esz es)) l c = some o → ∃ l2 b2 o2, st.O l2 b2 = some o2 ∧ ι l2 b2 = iupd ι st.L 0 (ι st.L b) l c ∧ ((l = st.L ∧ c = 0 ∧ l2 = st.L ∧ b2 = b) ∨ (l2 = l ∧ b2 = c ∧ l < st.L)) := by
    intro l c o hc
    by_cases q : l = st.L ∧ c = 0
    · obtain ⟨rfl, rfl⟩ := q
      exact ⟨_, _, _, ho, by rw [iupd_same], .inl ⟨rfl, rfl, rfl, rfl⟩⟩
    · rw [upd_ne _ _ q] at hc
      obtain ⟨h1, h2⟩ := hlow l c o hc
      exact ⟨l, c, o, h2, by rw [iupd_ne _ _ q], .inr ⟨rfl, rfl, h1⟩⟩
  have hG : ∀ k, Gd w ι st.O k → Gd w (iupd ι st.L 0 (ι st.L b)) (upd (cut st.O st.L) st.L 0 (some (.row e esz es))) k := by
    rintro k ⟨h1, h2⟩
    refine ⟨h1, fun ⟨l, c, o, h3, h4⟩ => h2 ?_⟩
    obtain ⟨l2, b2, o2, q1, q2, _⟩ := hback l c o h3
    exact ⟨l2, b2, o2, q1, q2.trans h4⟩
  refine ⟨⟨fun l c o hc => ?_, fun l c o l2 c2 o2 h1 h2 q => ?_⟩, fun l c o hc => ?_, hG⟩
  · have ht : ∀ l b2 o, l ≤ st.L - 1 → st.O l b2 = some o → upd (cut st.O st.L) st.L 0 (some (.row e esz es)) l b2 = some o ∧ iupd ι st.L 0 (ι st.L b) l b2 = ι l b2 := by
      intro l b2 o hl ho
      refine ⟨?_, iupd_ne _ _ (by omega)⟩
      rw [upd_ne _ _ (by omega)]
      simp only [cut]
      rw [if_pos (by omega)]; exact ho
    by_cases q : l = st.L ∧ c = 0
    · obtain ⟨rfl, rfl⟩ := q
      rw [upd_same] at hc
      cases hc
      rw [iupd_same]
      exact (h.lies.obj _ _ _ ho).turn (m := st.L - 1) hG ht (fun _ _ h => by cases h)
    · rw [upd_ne _ _ q] at hc
      rw [iupd_ne _ _ q]
      obtain ⟨h1, h2⟩ := hlow l c o hc
      refine (h.lies.obj l c o h2).turn (m := st.L - 1) hG ht ?_
      rintro e' cs rfl s hs
      have := h.lev l c e' cs h2 s hs
      omega
  · obtain ⟨a1, a2, a3, q1, q2, q3⟩ := hback l c o h1
    obtain ⟨b1, b2, b3, r1, r2, r3⟩ := hback l2 c2 o2 h2
    rw [← q2, ← r2] at q
    obtain ⟨e1, e2⟩ := h.lies.inj _ _ _ _ _ _ q1 r1 q
    rcases q3 with ⟨x1, x2, x3, x4⟩ | ⟨x1, x2, x3⟩ <;> rcases r3 with ⟨y1, y2, y3, y4⟩ | ⟨y1, y2, y3⟩
    · exact ⟨x1.trans y1.symm, x2.trans y2.symm⟩
    · omega
    · omega
    · exact ⟨x1.symm.trans (e1.trans y1), x2.symm.trans (e2.trans y2)⟩
  · obtain ⟨l2, b2, o2, q1, q2, _⟩ := hback l c o hc
    exact ⟨l2, b2, o2, q1, q2⟩

theorem hands_own : Hands exitOwn := by
  intro R st v hx a w ι val h hL hr
  unfold exitOwn at hx
  split at hx
  · rename_i l b off len
    obtain ⟨rfl, rfl, e, esz, es, ho, rfl, hR⟩ := hx
    obtain ⟨x1, x2, x3⟩ := export_row h hL ho
    refine ⟨_, _, _, hR, rfl, x1, x2, fun l c hl => ⟨iupd_ne _ _ (by omega), ?_⟩, ?_⟩
    · show upd (cut st.O st.L) st.L 0 _ l c = _
      rw [upd_ne _ _ (by omega)]
      simp only [cut]; rw [if_pos hl]
    · obtain ⟨e1, esz1, es1, cap, c, ho1, rfl, q1, q2, q3, q4, q5⟩ := hr
      rw [ho] at ho1
      simp only [Option.some.injEq, AObj.row.injEq] at ho1
      obtain ⟨rfl, rfl, rfl⟩ := ho1
      exact ⟨_, _, _, cap, c, upd_same _ _ _ _, by rw [iupd_same], q1, q2, q3, by rw [iupd_same]; exact q4, q5⟩
  · exact hx.elim

theorem hands_ownT : Hands exitOwnT := by
  intro R st v hx a w ι val h hL hr
  unfold exitOwnT at hx
  split at hx
  · rename_i l b off len rest
    obtain ⟨rfl, rfl, e, esz, es, ps, ho, rfl, rfl, hR⟩ := hx
    obtain ⟨x1, x2, x3⟩ := export_row h hL ho
    refine ⟨_, _, _, hR, rfl, x1, x2, fun l c hl => ⟨iupd_ne _ _ (by omega), ?_⟩, ?_⟩
    · show upd (cut st.O st.L) st.L 0 _ l c = _
      rw [upd_ne _ _ (by omega)]
      simp only [cut]; rw [if_pos hl]
    · obtain ⟨vs, rfl, hvl, hvs⟩ := hr
      refine ⟨vs, rfl, by simpa using hvl, fun j y hy => ?_⟩
      cases j with
      | zero =>
        simp only [List.getElem?_cons_zero, Option.some.injEq] at hy
        subst hy
        obtain ⟨u, hu, e1, esz1, es1, cap, c, ho1, rfl, q1, q2, q3, q4, q5⟩ := hvs 0 _ rfl
        rw [ho] at ho1
        simp only [Option.some.injEq, AObj.row.injEq] at ho1
        obtain ⟨rfl, rfl, rfl⟩ := ho1
        exact ⟨_, hu, _, _, _, cap, c, upd_same _ _ _ _, by rw [iupd_same], q1, q2, q3, by rw [iupd_same]; exact q4, q5⟩
      | succ j =>
        obtain ⟨u, hu, hru⟩ := hvs (j + 1) y (by simpa using hy)
        refine ⟨u, hu, ?_⟩
        simp only [List.getElem?_cons_succ, List.getElem?_map] at hy
        cases hp : ps[j]? with
        | none => simp [hp] at hy
        | some p =>
          simp only [hp, Option.map_some, Option.some.injEq] at hy
          subst hy
          exact RepP.mono hru (fun k hk => ⟨x3 k hk, rfl⟩)
  · exact hx.elim

/-- Blocks that have come since, and are no cells, have turned. -/
structure Turned (base : Nat) (w w' : World) : Prop where
  os : w'.os = w.os
  tape : w'.tape = w.tape
  output : w'.output = w.output
  keep : ∀ k, k < base → w'.heap[k]? = w.heap[k]?
  cel : Cel w w'
theorem Turned.refl (base : Nat) (w : World) : Turned base w w := ⟨rfl, rfl, rfl, fun _ _ => rfl, Cel.refl w⟩
theorem Turned.trans {base : Nat} {w1 w2 w3 : World} (h : Turned base w1 w2) (k : Turned base w2 w3) : Turned base w1 w3 :=
  ⟨k.os.trans h.os, k.tape.trans h.tape, k.output.trans h.output, fun q hq => (k.keep q hq).trans (h.keep q hq), h.cel.trans k.cel⟩
theorem Turned.putObj {base D : Nat} {o o' : Obj} (h : w.heap[D]? = some o) (hc : o.isCells = false) (hb : base ≤ D) : Turned base w (w.putObj D o') :=
  ⟨rfl, rfl, rfl, fun k hk => World.putObj_heap_other (by omega), Cel.putObj h hc⟩
theorem Moves.turned {s s' : ASt} {W W' : World} {ι' : Nat → Nat → Nat} (h : Moves s s' w W ι ι') (ht : Turned w.heap.size W W') : Moves s s' w W' ι ι' := by
  refine ⟨h.L, h.n, ht.os.trans h.os, ht.tape.trans h.tape, ht.output.trans h.output, Nat.le_trans h.size ht.cel.size, fun k hk ho => ?_, h.own, h.low, fun l b o c e hl ho hcc => ?_⟩
  · rw [ht.keep k hk]
    exact h.keep k hk ho
  · obtain ⟨c', h1, h2⟩ := h.roomy l b o c e hl ho hcc
    exact ⟨c', ht.cel.same _ _ _ _ h1, h2⟩
theorem leaves_marks {fn : Func} {tmps : Array Value} {R : Ending → World → Prop} {base : Nat} : ∀ (Ds : List Nat) {w1 : World}, Ds.Nodup → (∀ D ∈ Ds, base ≤ D ∧ w1.heap[D]? = some (.deferred (some []))) →
    (∀ w', Turned base w1 w' → ∃ v, (results fn tmps).run P w' = .ok v w' ∧ R (.returned v) w') → LeavesInM Fence.wide 3 P fn tmps R (Ds.map fun D => { target := .collected D, args := #[] }) .returning w1
  | [], w1, _, _, h => h w1 (Turned.refl _ _)
  | D :: Ds, w1, hn, hD, h => by
    rw [List.nodup_cons] at hn
    obtain ⟨q1, q2⟩ := hD D (by simp)
    refine ⟨by simp, .inl ⟨D, _, rfl, run_takeDeferred q2, leaves_marks Ds hn.2 (fun D' hD' => ⟨(hD D' (by simp [hD'])).1, ?_⟩) fun w' ht => h w' ((Turned.putObj q2 rfl q1).trans ht)⟩⟩
    rw [World.putObj_heap_other (fun e => hn.1 (by rw [← e]; exact hD'))]
    exact (hD D' (by simp [hD'])).2
theorem leavesM {fn : Func} {R : Ending → World → Prop} {base : Nat} {w1 : World} (hm : Marks base a w1) {e : Exit} (he : e = .normal ∨ e = .ret)
    (h : ∀ w', Turned base w1 w' → ∃ v, (results fn a.tmps).run P w' = .ok v w' ∧ R (.returned v) w') : bodyPostM Fence.wide 3 P fn R e a w1 := by
  obtain ⟨Ds, h1, h2, h3⟩ := hm
  have := leaves_marks (fn := fn) (tmps := a.tmps) (R := R) Ds h1 h3 h
  rw [← h2] at this
  rcases he with rfl | rfl <;> exact this

/-- **A FUNCTION's CONTRACT, OUT OF ITS BODY.** -/
theorem fn_AC {X : (RV → Store → Prop) → ASt → TV → Prop} (hX : Hands X) (hT : TOk P T) (hm : P.follows .mixedOrders = true) {f : FuncId} {fn : Func} {c : Code} (hf : P.funcs[f]? = some fn) (hb : fn.body = some c)
    (hname : (fn.name == "runtime.NumGoroutine") = false) {L : Nat} (hL : 0 < L) {args : List AV} (hn : args.length ≤ fn.ntmps) {S : Store} {R : RV → Store → Prop}
    (h : Sup S L → awp P T false c (retQ T fn.results.toList (X R)) { L := L, n := fn.ntmps, tm := tmOf 0 args, O := S }) : AC P L f args S R := by
  refine ⟨enters_of hf hname hb, fun w ι vals hsup hlev hlies hlen hargs => ?_⟩
  refine callsIn_wide.1 (callsIn_of_wp_marks (n := 3) hf hb trivial ?_)
  have hlook : ∀ t, look (tmOf 0 args) t = match args[t]? with | some v => .a v | none => .undef := by
    intro t
    rw [look_tmOf]
    by_cases ht : t < args.length
    · rw [if_pos (by omega)]; simp
    · rw [if_neg (by omega), List.getElem?_eq_none (by omega)]
  have hgood : Good { L := L, n := fn.ntmps, tm := tmOf 0 args, O := S } { tmps := vals.toArray ++ Array.replicate (fn.ntmps - vals.toArray.size) undef, defers := [] } w ι := by
    refine ⟨⟨hlies, by simp; omega, fun t ht => ?_, fun t ht => ?_⟩, fun l b o ho => ?_, hlev⟩
    · show RepT _ _ _ _ (look (tmOf 0 args) t) _
      rw [hlook]
      rcases Nat.lt_or_ge t args.length with h1 | h1
      · rw [List.getElem?_eq_getElem h1]
        have hv : vals[t]? = some vals[t] := List.getElem?_eq_getElem (by omega)
        have := hargs t args[t] vals[t] (List.getElem?_eq_getElem h1) hv
        rw [Array.getD_eq_getD_getElem?, Array.getElem?_append_left (by simp; omega)]
        show RepA _ _ _ _ _ _
        have e1 : (vals.toArray[t]?).getD undef = vals[t] := by simp [hv]
        rw [e1]; exact this
      · rw [List.getElem?_eq_none h1]; trivial
    · show look (tmOf 0 args) t = _
      have ht' : fn.ntmps ≤ t := ht
      rw [hlook, List.getElem?_eq_none (by omega)]
    · rcases Nat.lt_or_ge l L with h1 | h1
      · exact Nat.le_of_lt h1
      · have ho' : S l b = some o := ho
        rw [hsup l b h1] at ho'; cases ho'
  refine wpIn_mono (awp_sound hT hm (rd := false) rfl c (base := w.heap.size) hgood (Marks.nil rfl) (Nat.le_refl _) (h hsup)) ?_
  rintro e a' w1 ⟨st', ι', hq, hg1, hmv1, hmk, _⟩
  have he : e = .normal ∨ e = .ret := by cases e <;> first | exact .inl rfl | exact .inr rfl | exact hq.elim
  have hres : resK T st' fn.results.toList (fun vs => ∃ v, joinR vs = some v ∧ X R st' v) := by cases e <;> first | exact hq | exact hq.elim
  refine leavesM hmk he (fun w' htu => ?_)
  have hg := hg1.cel htu.cel
  have hmv := hmv1.turned htu
  have hLst : st'.L = L := hmv.L
  have done : resK T st' fn.results.toList (fun vs => ∃ v, joinR vs = some v ∧ X R st' v) → ∃ v, (results fn a'.tmps).run P w' = .ok v w' ∧
      ∃ r S' v2 ι2, R r S' ∧ Ending.returned v = .returned v2 ∧ Sup S' L ∧ Lev S' ∧ Lies w' ι2 (r.store L S') ∧ MovesS L S (r.store L S') w w' ι ι2 ∧ RepT w' (Gd w' ι2 (r.store L S')) ι2 (r.store L S') (r.tv L) v2 := by
    intro hres
    obtain ⟨vs, vals', ⟨v, hj, hx⟩, hl', hr', hrun⟩ := resK_sound hT hg fn.results.toList hres
    have hval : ∃ val, (results fn a'.tmps).run P w' = .ok val w' ∧ RepT w' (Gd w' ι' st'.O) ι' st'.O v val := by
      have hrun2 : (fn.results.mapM fun | ResultVar.tmp t => (pure (a'.tmps.getD t undef) : Sem Value) | ResultVar.cell ad t => do loadVar t (← asAddr (a'.tmps.getD ad undef))).run P w' = .ok vals'.toArray w' := by
        rw [Array.mapM_eq_mapM_toList]
        rw [run_map_toArray, hrun]
        rfl
      have hR : (results fn a'.tmps).run P w' = (Result.ok vals'.toArray w').andThen fun (r : Array Value) w1 => (pure (if h : r.size = 1 then r[0] else Value.tuple r) : Sem Value).run P w1 := by
        unfold results
        rw [Sem.run_bind]
        exact congrArg (fun (x : Result (Array Value)) => x.andThen fun (r : Array Value) w1 => (pure (if h : r.size = 1 then r[0] else Value.tuple r) : Sem Value).run P w1) hrun2
      unfold joinR at hj
      split at hj
      · rename_i v1
        simp only [Option.some.injEq] at hj
        subst hj
        obtain ⟨u, rfl⟩ := List.length_eq_one_iff.1 hl'
        refine ⟨u, ?_, hr' 0 v1 u rfl rfl⟩
        rw [hR]
        rfl
      · rename_i hne
        cases ha : argsOf vs with
        | none => simp [ha] at hj
        | some avs =>
          simp only [ha, Option.map_some, Option.some.injEq] at hj
          subst hj
          obtain ⟨k1, k2⟩ := argsOf_rep ha hl' hr'
          refine ⟨.tuple vals'.toArray, ?_, ⟨vals'.toArray, rfl, by simp [k1], fun j y hy => ?_⟩⟩
          · rw [hR, Result.andThen_ok]
            have : vals'.toArray.size ≠ 1 := by
              intro h1
              have : vs.length = 1 := by rw [← hl']; simpa using h1
              obtain ⟨v1, rfl⟩ := List.length_eq_one_iff.1 this
              exact hne v1 rfl
            simp only [this, dite_false, Sem.run_pure]
          · have hlt : j < vals'.length := by rw [← k1]; exact (List.getElem?_eq_some_iff.1 hy).1
            exact ⟨vals'[j], by simp [hlt], k2 j y _ hy (List.getElem?_eq_getElem hlt)⟩
    obtain ⟨val, hval, hrep⟩ := hval
    obtain ⟨r, S', ι2, q1, q2, q3, q4, q5, q6⟩ := hX R st' v hx a' w' ι' val hg (by omega) hrep
    refine ⟨val, hval, r, S', val, ι2, q1, rfl, ?_, ?_, by rw [← hLst]; exact q3, ?_, by rw [← hLst]; exact q6⟩
    · intro l b hl
      rw [q2]
      simp only [cut]
      rw [if_neg (by omega)]
    · intro l b e1 cs ho s hs
      rw [q2] at ho
      simp only [cut] at ho
      split at ho
      · exact hg.lev l b e1 cs ho s hs
      · cases ho
    · rw [← hLst]
      refine ⟨hmv.os, hmv.tape, hmv.output, hmv.size, hmv.keep, fun l b o ho => ?_, fun l b o hl ho => ?_, fun l b o c1 e1 hl ho hc => hmv.roomy l b o c1 e1 (by rw [← hmv.L]; exact hl) ho hc⟩
      · obtain ⟨l2, b2, o2, k1, k2⟩ := q4 l b o ho
        rw [← k2]
        exact hmv.own l2 b2 o2 k1
      · obtain ⟨o', k1, k2, k3⟩ := hmv.low l b o (by rw [← hmv.L]; exact hl) ho
        obtain ⟨k4, k5⟩ := q5 l b hl
        exact ⟨o', by rw [k5]; exact k1, k2, k4.trans k3⟩
  exact done hres
where
  run_map_toArray {P : Program} {w : World} {α : Type} (s : Sem (List α)) : (List.toArray <$> s).run P w = (s.run P w).andThen fun l w' => .ok l.toArray w' := by
    rw [map_eq_pure_bind, Sem.run_bind]
    rfl
end
end Go.Rd
