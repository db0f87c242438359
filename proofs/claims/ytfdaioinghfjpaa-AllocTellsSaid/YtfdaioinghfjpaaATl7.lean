/- The law AllocTells of the given program, for every input. (part 7 of 10) -/
import Derived.Test.YtfdaioinghfjpaaATl6
namespace Go.Proofs.Ytfdaioinghfjpaa
open Go.Rd Go.RowKit
set_option maxRecDepth 20000
theorem hands_or {X Y : (RV → Store → Prop) → ASt → TV → Prop} (hx : Hands X) (hy : Hands Y) : Hands fun R st v => X R st v ∨ Y R st v := by
  intro R st v h
  rcases h with h | h
  · exact hx R st v h
  · exact hy R st v h
theorem retQ_inl {T : TypeId → Option TI} {rs : List ResultVar} {X Y : (RV → Store → Prop) → ASt → TV → Prop} {R : RV → Store → Prop} {e : Exit} {st : ASt} (he : isEnd e = true) (h : retQ T rs (X R) e st)
    (hm : ∀ K K' : List TV → Prop, (∀ vs, K vs → K' vs) → resK T st rs K → resK T st rs K') : retQ T rs (fun st v => X R st v ∨ Y R st v) e st := by
  cases e <;> first | exact hm _ _ (fun vs ⟨v, h1, h2⟩ => ⟨v, h1, .inl h2⟩) h | cases he
theorem retQ_inr {T : TypeId → Option TI} {rs : List ResultVar} {X Y : (RV → Store → Prop) → ASt → TV → Prop} {R : RV → Store → Prop} {e : Exit} {st : ASt} (he : isEnd e = true) (h : retQ T rs (Y R) e st)
    (hm : ∀ K K' : List TV → Prop, (∀ vs, K vs → K' vs) → resK T st rs K → resK T st rs K') : retQ T rs (fun st v => X R st v ∨ Y R st v) e st := by
  cases e <;> first | exact hm _ _ (fun vs ⟨v, h1, h2⟩ => ⟨v, h1, .inr h2⟩) h | cases he
theorem resK_tmp1 {T : TypeId → Option TI} {st : ASt} {t : Nat} : ∀ K K' : List TV → Prop, (∀ vs, K vs → K' vs) → resK T st [.tmp t] K → resK T st [.tmp t] K' := fun _ _ h hk => h _ hk
theorem overlaps_ext {S : Store} {l0 b0 off len cap l1 b1 n1 : Nat} {es es1 : List (List PV)} (h0 : S l0 b0 = some (.row 41 4 es)) (h1 : S l1 b1 = some (.row 41 4 es1)) (hne : ¬ (l1 = l0 ∧ b1 = b0)) (hlen : 0 < off + cap) :
    Ext Try.prog 109 [.s (.sl l1 b1 0 n1), .s (.slc l0 b0 off len cap)] S (Rd.bool false) := by
  refine ⟨Try.f109, _, Try.func109, by kernel_rfl, by kernel_rfl, by kernel_rfl, rfl, fun w ι vals hl hlen' hr => ?_⟩
  obtain ⟨v0, v1, rfl⟩ : ∃ v0 v1, vals = [v0, v1] := by
    match vals, hlen' with
    | [v0, v1], _ => exact ⟨v0, v1, rfl⟩
  obtain ⟨e1, z1, s1, cap1, c1, q1, rfl, _, _, _, q2, _⟩ := hr 0 _ _ rfl rfl
  obtain ⟨e2, z2, s2, c2, r1, rfl, _, _, r2, r3⟩ := hr 1 _ _ rfl rfl
  rw [h1] at q1
  rw [h0] at r1
  simp only [Option.some.injEq, AObj.row.injEq] at q1 r1
  obtain ⟨rfl, rfl, rfl⟩ := q1
  obtain ⟨rfl, rfl, rfl⟩ := r1
  have hz := hl.inj l1 b1 _ l0 b0 _ h1 h0
  have hTk := RdT.ok 22 _ rfl
  refine ⟨.bool false, ?_, RepP.lit _ rfl⟩
  have := Lib.run_overlaps_apart (P := Try.prog) w 22 4 41 hTk.desc.1 4 (fun w' => run_sizeOf_ti w' (RdT.ok 41 _ rfl)) ⟨ι l1 b1, 0 * 4, none⟩ ⟨ι l0 b0, off * 4, none⟩ n1 cap1 len cap (fun e => hne (hz e))
    41 41 c1.size c2.size (by simp [World.shape?, q2]) (by simp [World.shape?, r2]) (by omega) (by simp [World.frozen?, q2]) (by simp [World.frozen?, q2])
  exact this
def insOf (l : List U) (i : Nat) (u : U) : List U := l.take i ++ u :: l.drop i
theorem insert_slc (l : List U) (u : U) (i l0 b N l1 b1 L : Nat) (S : Store) (hi : i ≤ l.length) (hN : l.length ≤ N) (hNm : N ≤ maxLen) (hl0 : l0 < L) (hl1 : l1 < L) (hne : ¬ (l1 = l0 ∧ b1 = b)) (ho : S l0 b = some (.row 41 4 (l.map encU)))
    (ho1 : S l1 b1 = some (.row 41 4 [encU u])) (hby : (l.length + 1) * 32 ≤ 140737488355328) :
    AC Try.prog L 77 [.s (.slc l0 b 0 l.length N), .s (.pv (.lit (.int .i64 i))), .s (.sl l1 b1 0 1)] S fun r S' =>
      (S' = S ∧ r = .own 41 4 ((insOf l i u).map encU)) ∨ (S' = upd S l0 b (some (.row 41 4 ((insOf l i u).map encU))) ∧ r = .val (.a (.s (.slc l0 b 0 (l.length + 1) N)))) := by
  have hm : (N : Int) ≤ 9223372036854775807 := by have : maxLen = 9223372036854775807 := rfl; omega
  have hm2 : l.length + 1 ≤ maxLen := by have : maxLen = 9223372036854775807 := rfl; omega
  have hlm : (l.map encU).length = l.length := List.length_map _
  refine fn_St (n := 95) (rs := [.tmp 6]) (hands_or hands_val hands_own) RdT.ok RdT.mixed Try.func77 rfl (by kernel_rfl) rfl rfl rfl (by omega) ?_
  intro hS
  show awp _ _ _ _ _ (St L 95 [(0, .a (.s (.slc l0 b 0 l.length N))), (1, int i), (2, .a (.s (.sl l1 b1 0 1)))] S [])
  have hnews : ([encU u].drop 0).take (min (l.length + 1 - i) 1) = [encU u] := by
    rw [show min (l.length + 1 - i) 1 = 1 by omega]
    rfl
  by_cases hin : i = l.length
  · subst hin
    have hA1 : over (l.map encU) l.length (([encU u].drop 0).take 1) = (insOf l l.length u).map encU := by
      simp only [over, insOf, List.drop_zero, List.take_one, List.head?_cons, Option.toList_some, List.take_length, List.drop_length, List.map_append, List.map_cons, List.map_nil]
      rw [List.take_of_length_le (by rw [hlm]; exact Nat.le_refl _), List.drop_of_length_le (by rw [hlm]; simp)]
      rfl
    have hA2 : (l.map encU).take l.length ++ (([encU u].drop 0).take 1) = (insOf l l.length u).map encU := by
      simp only [insOf, List.drop_zero, List.take_one, List.head?_cons, Option.toList_some, List.take_length, List.drop_length, List.map_append, List.map_cons, List.map_nil]
      rw [List.take_of_length_le (by rw [hlm]; exact Nat.le_refl _)]
    repeat' (first
        | (with_reducible refine want_none ?_)
        | (with_reducible refine c_seq ?_)
        | (with_reducible refine c_region ?_)
        | (with_reducible refine aops_nil ?_)
        | (with_reducible refine k_normal ?_)
        | (with_reducible refine c_skip ?_)
        | (with_reducible refine c_ret ?_)
        | (with_reducible refine k_ret ?_)
        | ((with_reducible apply st_lenslc RdT.ok); exact rfl; exact rfl; exact rfl; intro hlen)
        | ((with_reducible apply st_lenown RdT.ok); exact rfl; exact rfl; exact rfl; intro hlen)
        | ((with_reducible apply st_cap RdT.ok); exact rfl; exact rfl; exact rfl; intro hcapp)
        | ((with_reducible apply st_slcE l.length 0 (N - l.length)); exact rfl; exact rfl; exact rfl; exact rfl; exact (mkO_low _ _ _ hl0).trans ho; exact rfl; omega; omega)
        | (intro hb0)
        | (exfalso; omega)
        | ((with_reducible apply st_appendL); exact rfl; exact rfl; exact rfl; exact hl0; exact ho; exact rfl; exact rfl; exact SrcA.sl ((mkO_low _ _ _ hl1).trans ho1); (rw [hlm]; exact Nat.le_refl _); exact hm2; exact rfl; exact hA1; exact hA2; (intro _; exact hby))
        | ((with_reducible apply st_add); exact rfl; exact rfl; exact rfl; omega)
        | ((with_reducible apply st_sub); exact rfl; exact rfl; exact rfl; omega)
        | ((with_reducible apply st_q RdT.ok); exact rfl; exact rfl)
        | ((with_reducible apply c_condT); exact rfl)
        | ((with_reducible apply c_condF); exact rfl)
        | ((with_reducible apply c_cond); exact rfl; (first | exact Bp.not Bp.dec | exact Bp.dec | exact Bp.not Bp.bool | exact Bp.bool); all_goals intro hc))
    all_goals first
      | (refine retQ_inl rfl ?_ resK_tmp1
         (with_reducible apply r_one); exact rfl; exact .tmp rfl .nil; exact .s (.slcL hl0); exact sup_upd hS hl0; exact .inr ⟨rfl, rfl⟩)
      | (refine retQ_inr rfl ?_ resK_tmp1
         (with_reducible apply r_own); exact rfl; exact .tmp rfl .nil; exact rfl; exact rfl; exact hS; exact .inl ⟨rfl, rfl⟩)
  · by_cases hroom : l.length + 1 ≤ N
    · repeat' (first
          | (with_reducible refine want_none ?_)
          | (with_reducible refine c_seq ?_)
          | (with_reducible refine c_region ?_)
          | (with_reducible refine aops_nil ?_)
          | (with_reducible refine k_normal ?_)
          | (with_reducible refine c_skip ?_)
          | (with_reducible refine c_ret ?_)
          | (with_reducible refine k_ret ?_)
          | ((with_reducible apply st_lenslc RdT.ok); exact rfl; exact rfl; exact rfl; intro hlen)
          | ((with_reducible apply st_lenown RdT.ok); exact rfl; exact rfl; exact rfl; intro hlen)
          | ((with_reducible apply st_cap RdT.ok); exact rfl; exact rfl; exact rfl; intro hcapp)
          | ((with_reducible apply st_slcE i (l.length - i) (N - i)); exact rfl; exact rfl; exact rfl; exact rfl; exact (mkO_low _ _ _ hl0).trans ho; exact rfl; omega; omega)
          | (intro hb0)
          | (exfalso; omega)
          | ((with_reducible apply st_slcE 0 (l.length + 1) N); exact rfl; exact rfl; exact rfl; exact rfl; exact (mkO_low _ _ _ hl0).trans ho; exact rfl; omega; omega)
          | ((with_reducible apply st_slcE (i + 1) (l.length - i) (N - (i + 1))); exact rfl; exact rfl; exact rfl; exact rfl; exact (mkO_low _ _ _ hl0).trans ho; exact rfl; omega; omega)
          | ((with_reducible apply st_ext); exact rfl; exact rfl; exact rfl; exact overlaps_ext ((mkO_low _ _ _ hl0).trans ho) ((mkO_low _ _ _ hl1).trans ho1) hne (by omega))
          | ((with_reducible apply st_add); exact rfl; exact rfl; exact rfl; omega)
          | ((with_reducible apply st_sub); exact rfl; exact rfl; exact rfl; omega)
          | ((with_reducible apply st_q RdT.ok); exact rfl; exact rfl)
          | ((with_reducible apply c_condT); exact rfl)
          | ((with_reducible apply c_condF); exact rfl)
          | ((with_reducible apply c_cond); exact rfl; (first | exact Bp.not Bp.dec | exact Bp.dec | exact Bp.not Bp.bool | exact Bp.bool); all_goals intro hc))
      refine c_regionA 9 rfl ?_
      (with_reducible apply d_take RdT.ok 0); exact rfl; exact rfl; exact rfl; exact rfl; kernel_rfl; kernel_rfl; kernel_rfl; exact rfl; exact rfl
      (with_reducible apply d_take RdT.ok 1); exact rfl; exact rfl; exact rfl; exact rfl; kernel_rfl; kernel_rfl; kernel_rfl; exact rfl; exact rfl
      (with_reducible apply d_take RdT.ok 2); exact rfl; exact rfl; exact rfl; exact rfl; kernel_rfl; kernel_rfl; kernel_rfl; exact rfl; exact rfl
      (with_reducible apply d_add 3); exact rfl; kernel_rfl; kernel_rfl; kernel_rfl; exact rfl; exact rfl; exact rfl; omega
      (with_reducible apply d_take RdT.ok 5); exact rfl; exact rfl; exact rfl; exact rfl; kernel_rfl; kernel_rfl; kernel_rfl; exact rfl; exact rfl
      (with_reducible apply d_take RdT.ok 6); exact rfl; exact rfl; exact rfl; exact rfl; kernel_rfl; kernel_rfl; kernel_rfl; exact rfl; exact rfl
      have hov : over (l.map encU) (i + 1) (((l.map encU).drop i).take (min (l.length - i) (l.length + 1 - i))) = (l.map encU).take (i + 1) ++ (l.map encU).drop i := by
        rw [show min (l.length - i) (l.length + 1 - i) = l.length - i by omega, List.take_of_length_le (by rw [List.length_drop, hlm]; exact Nat.le_refl _)]
        unfold over
        have hd : (l.map encU).drop (i + 1 + (l.length - i)) = [] := List.drop_of_length_le (by rw [hlm]; omega)
        rw [List.length_drop, hlm, hd, List.append_nil]
      have hov2 : over ((l.map encU).take (i + 1) ++ (l.map encU).drop i) i (([encU u].drop 0).take (min (l.length + 1 - i) 1)) = (insOf l i u).map encU := by
        rw [hnews]
        unfold over insOf
        rw [List.take_append_of_le_length (by rw [List.length_take, hlm]; omega), List.take_take, List.drop_append_of_le_length (by rw [List.length_take, hlm]; simp; omega), List.map_append, List.map_cons, List.map_take, List.map_drop, show min i (i + 1) = i by omega]
        rw [show [encU u].length = 1 from rfl, List.drop_of_length_le (by rw [List.length_take, hlm]; omega)]
        rfl
      have hEl : ((l.map encU).take (i + 1) ++ (l.map encU).drop i).length = l.length + 1 := by
        rw [List.length_append, List.length_take, List.length_drop, hlm]; omega
      (with_reducible apply d_two 4 7); kernel_rfl; exact rfl; exact rfl
      all_goals first | ((with_reducible apply st_slcE (i + 1) (l.length - i) (N - (i + 1))); exact rfl; exact rfl; exact rfl; exact rfl; exact (mkO_low _ _ _ hl0).trans ho; exact rfl; omega; omega) | ((with_reducible apply st_slcE i (l.length + 1 - i) (N - i)); exact rfl; exact rfl; exact rfl; exact rfl; exact (mkO_low _ _ _ hl0).trans ho; exact rfl; omega; omega)
      all_goals intro hb1
      all_goals first | (exfalso; omega) | refine aops_nil ?_
      all_goals first | ((with_reducible apply d_one 7); (decide +kernel); exact rfl) | ((with_reducible apply d_one 4); (decide +kernel); exact rfl)
      all_goals first | ((with_reducible apply st_slcE (i + 1) (l.length - i) (N - (i + 1))); exact rfl; exact rfl; exact rfl; exact rfl; exact (mkO_low _ _ _ hl0).trans ho; exact rfl; omega; omega) | ((with_reducible apply st_slcE i (l.length + 1 - i) (N - i)); exact rfl; exact rfl; exact rfl; exact rfl; exact (mkO_low _ _ _ hl0).trans ho; exact rfl; omega; omega)
      all_goals intro hb2
      all_goals first | (exfalso; omega) | refine aops_nil ?_
      all_goals ((with_reducible apply d_one 8); kernel_rfl; exact rfl)
      all_goals ((with_reducible apply st_copyL); exact rfl; exact rfl; exact rfl; exact hl0; exact ho; exact rfl; exact SrcR.slc ((mkO_low _ _ _ hl0).trans ho) (by rw [hlm]; omega); (rw [hlm]; omega); (rw [List.length_take, List.length_drop, hlm]; omega); exact hov; refine put_some rfl (aops_nil (d_done (by decide +kernel) ?_)))
      all_goals repeat' (first
                    | (with_reducible refine want_none ?_)
                    | (with_reducible refine c_seq ?_)
                    | (with_reducible refine c_region ?_)
                    | (with_reducible refine aops_nil ?_)
                    | (with_reducible refine k_normal ?_)
                    | (with_reducible refine c_skip ?_)
                    | (with_reducible refine c_ret ?_)
                    | (with_reducible refine k_ret ?_)
                    | ((with_reducible apply st_slcE i (l.length + 1 - i) (N - i)); exact rfl; exact rfl; exact rfl; exact rfl; exact (mkO_low _ _ _ hl0).trans (upd_same _ _ _ _); exact rfl; omega; omega)
                    | (intro hb3)
                    | (exfalso; omega)
                    | ((with_reducible apply st_copyL); exact rfl; exact rfl; exact rfl; exact hl0; exact upd_same _ _ _ _; exact rfl; exact SrcR.sl ((mkO_low _ _ _ hl1).trans ((upd_ne _ _ hne).trans ho1)); (rw [hEl]; omega); (rw [hnews]; show i + 1 ≤ _; omega); exact hov2; refine put_some rfl ?_)
                    | ((with_reducible apply st_add); exact rfl; exact rfl; exact rfl; omega)
                    | ((with_reducible apply st_sub); exact rfl; exact rfl; exact rfl; omega)
                    | ((with_reducible apply st_q RdT.ok); exact rfl; exact rfl)
                    | ((with_reducible apply c_condT); exact rfl)
                    | ((with_reducible apply c_condF); exact rfl)
                    | ((with_reducible apply c_cond); exact rfl; (first | exact Bp.not Bp.dec | exact Bp.dec | exact Bp.not Bp.bool | exact Bp.bool); all_goals intro hc))
      all_goals
        refine retQ_inl rfl ?_ resK_tmp1
        (with_reducible apply r_one); exact rfl; exact .tmp rfl .nil; exact .s (.slcL hl0); exact sup_upd (sup_upd hS hl0) hl0; exact .inr ⟨upd_upd _ _ _ _ _, rfl⟩
    · obtain ⟨Z, hZ⟩ : ∃ Z, (l.map encU).take i ++ List.replicate (l.length + 1 - i) (RdT.i41.zero.map PV.lit) = Z := ⟨_, rfl⟩
      have hZl : Z.length = l.length + 1 := by rw [← hZ, List.length_append, List.length_take, List.length_replicate, hlm]; omega
      obtain ⟨Z2, hZ2⟩ : ∃ Z2, over Z i (([encU u].drop 0).take (min (l.length + 1 - i) 1)) = Z2 := ⟨_, rfl⟩
      have hZ2l : Z2.length = l.length + 1 := by rw [← hZ2, over_length (by omega), hnews, hZl]; show max (l.length + 1) (i + 1) = _; omega
      have hZ3 : over Z2 (i + 1) (((l.map encU).drop i).take (min (l.length - i) (l.length - i))) = (insOf l i u).map encU := by
        rw [Nat.min_self, List.take_of_length_le (by rw [List.length_drop, hlm]; exact Nat.le_refl _)]
        have h1 : Z2.take (i + 1) = (l.map encU).take i ++ [encU u] := by
          rw [← hZ2, hnews]
          unfold over
          rw [← List.append_assoc, List.take_append_of_le_length (by simp; omega), List.take_of_length_le (by simp; omega), ← hZ, List.take_append_of_le_length (by rw [List.length_take, hlm]; omega), List.take_take, Nat.min_self]
        unfold over insOf
        have hd : Z2.drop (i + 1 + (l.length - i)) = [] := List.drop_of_length_le (by omega)
        rw [h1, List.length_drop, hlm, hd, List.append_nil, List.map_append, List.map_cons, List.map_take, List.map_drop, List.append_assoc]
        rfl
      repeat' (first
          | (with_reducible refine want_none ?_)
          | (with_reducible refine c_seq ?_)
          | (with_reducible refine c_region ?_)
          | (with_reducible refine aops_nil ?_)
          | (with_reducible refine k_normal ?_)
          | (with_reducible refine c_skip ?_)
          | (with_reducible refine c_ret ?_)
          | (with_reducible refine k_ret ?_)
          | ((with_reducible apply st_lenslc RdT.ok); exact rfl; exact rfl; exact rfl; intro hlen)
          | ((with_reducible apply st_lenown RdT.ok); exact rfl; exact rfl; exact rfl; intro hlen)
          | ((with_reducible apply st_cap RdT.ok); exact rfl; exact rfl; exact rfl; intro hcapp)
          | ((with_reducible apply st_slO i (l.length + 1 - i)); exact rfl; exact rfl; exact rfl; exact rfl; exact mkO_own _ _ _ _; exact rfl; omega; omega)
          | ((with_reducible apply st_copyO); exact rfl; exact rfl; exact rfl; exact rfl; exact rfl; exact SrcR.sl ((mkO_low _ _ _ hl1).trans ho1); omega; (rw [hnews]; show i + 1 ≤ _; omega); exact hZ2; exact rfl; refine put_some rfl ?_)
          | ((with_reducible apply st_slcE i (l.length - i) (N - i)); exact rfl; exact rfl; exact rfl; exact rfl; exact (mkO_low _ _ _ hl0).trans ho; exact rfl; omega; omega)
          | (intro hb0)
          | (exfalso; omega)
          | ((with_reducible apply st_slcE 0 i N); exact rfl; exact rfl; exact rfl; exact rfl; exact (mkO_low _ _ _ hl0).trans ho; exact rfl; omega; omega)
          | ((with_reducible apply st_appendZ (m := l.length + 1 - i)); exact rfl; exact RdT.ok; exact rfl; exact rfl; exact rfl; exact hl0; exact ho; exact rfl; exact rfl; omega; omega; (rw [hlm]; exact hi); omega; exact rfl; omega; exact hZ; (rw [show i + (l.length + 1 - i) = l.length + 1 by omega]; exact hby))
          | ((with_reducible apply st_add); exact rfl; exact rfl; exact rfl; omega)
          | ((with_reducible apply st_sub); exact rfl; exact rfl; exact rfl; omega)
          | ((with_reducible apply st_q RdT.ok); exact rfl; exact rfl)
          | ((with_reducible apply c_condT); exact rfl)
          | ((with_reducible apply c_condF); exact rfl)
          | ((with_reducible apply c_cond); exact rfl; (first | exact Bp.not Bp.dec | exact Bp.dec | exact Bp.not Bp.bool | exact Bp.bool); all_goals intro hc))
      refine c_regionA 9 rfl ?_
      (with_reducible apply d_take RdT.ok 0); exact rfl; exact rfl; exact rfl; exact rfl; kernel_rfl; kernel_rfl; kernel_rfl; exact rfl; exact rfl
      (with_reducible apply d_take RdT.ok 1); exact rfl; exact rfl; exact rfl; exact rfl; kernel_rfl; kernel_rfl; kernel_rfl; exact rfl; exact rfl
      (with_reducible apply d_take RdT.ok 2); exact rfl; exact rfl; exact rfl; exact rfl; kernel_rfl; kernel_rfl; kernel_rfl; exact rfl; exact rfl
      (with_reducible apply d_add 3); exact rfl; kernel_rfl; kernel_rfl; kernel_rfl; exact rfl; exact rfl; exact rfl; omega
      (with_reducible apply d_take RdT.ok 5); exact rfl; exact rfl; exact rfl; exact rfl; kernel_rfl; kernel_rfl; kernel_rfl; exact rfl; exact rfl
      (with_reducible apply d_take RdT.ok 6); exact rfl; exact rfl; exact rfl; exact rfl; kernel_rfl; kernel_rfl; kernel_rfl; exact rfl; exact rfl
      (with_reducible apply d_two 4 7); kernel_rfl; exact rfl; exact rfl
      all_goals first | ((with_reducible apply st_slO (i + 1) (l.length - i)); exact rfl; exact rfl; exact rfl; exact rfl; exact mkO_own _ _ _ _; exact rfl; omega; omega) | ((with_reducible apply st_slcE i (l.length - i) (N - i)); exact rfl; exact rfl; exact rfl; exact rfl; exact (mkO_low _ _ _ hl0).trans ho; exact rfl; omega; omega)
      all_goals try intro hb1
      all_goals first | (exfalso; omega) | refine aops_nil ?_
      all_goals first | ((with_reducible apply d_one 7); (decide +kernel); exact rfl) | ((with_reducible apply d_one 4); (decide +kernel); exact rfl)
      all_goals first | ((with_reducible apply st_slO (i + 1) (l.length - i)); exact rfl; exact rfl; exact rfl; exact rfl; exact mkO_own _ _ _ _; exact rfl; omega; omega) | ((with_reducible apply st_slcE i (l.length - i) (N - i)); exact rfl; exact rfl; exact rfl; exact rfl; exact (mkO_low _ _ _ hl0).trans ho; exact rfl; omega; omega)
      all_goals try intro hb2
      all_goals first | (exfalso; omega) | refine aops_nil ?_
      all_goals ((with_reducible apply d_one 8); kernel_rfl; exact rfl)
      all_goals ((with_reducible apply st_copyO); exact rfl; exact rfl; exact rfl; exact rfl; exact rfl; exact SrcR.slc ((mkO_low _ _ _ hl0).trans ho) (by rw [hlm]; omega); omega; (rw [List.length_take, List.length_drop, hlm]; omega); exact hZ3; exact rfl; refine put_some rfl (aops_nil (d_done (by decide +kernel) ?_)))
      all_goals repeat' (first
                    | (with_reducible refine want_none ?_)
                    | (with_reducible refine c_seq ?_)
                    | (with_reducible refine c_region ?_)
                    | (with_reducible refine aops_nil ?_)
                    | (with_reducible refine k_normal ?_)
                    | (with_reducible refine c_skip ?_)
                    | (with_reducible refine c_ret ?_)
                    | (with_reducible refine k_ret ?_)
                    | ((with_reducible apply st_add); exact rfl; exact rfl; exact rfl; omega)
                    | ((with_reducible apply st_sub); exact rfl; exact rfl; exact rfl; omega)
                    | ((with_reducible apply st_q RdT.ok); exact rfl; exact rfl)
                    | ((with_reducible apply c_condT); exact rfl)
                    | ((with_reducible apply c_condF); exact rfl)
                    | ((with_reducible apply c_cond); exact rfl; (first | exact Bp.not Bp.dec | exact Bp.dec | exact Bp.not Bp.bool | exact Bp.bool); all_goals intro hc))
      all_goals
        refine retQ_inr rfl ?_ resK_tmp1
        (with_reducible apply r_own); exact rfl; exact .tmp rfl .nil; exact rfl; (rw [hZl, List.length_map]; simp [insOf]; omega); exact hS; exact .inl ⟨rfl, rfl⟩
theorem insert_AC (l : List U) (u : U) (i l0 b l1 b1 L : Nat) (S : Store) (hi : i ≤ l.length) (hl0 : l0 < L) (hl1 : l1 < L) (hne : ¬ (l1 = l0 ∧ b1 = b)) (ho : S l0 b = some (.row 41 4 (l.map encU)))
    (ho1 : S l1 b1 = some (.row 41 4 [encU u])) (hby : (l.length + 1) * 32 ≤ 140737488355328) :
    AC Try.prog L 77 [.s (.sl l0 b 0 l.length), .s (.pv (.lit (.int .i64 i))), .s (.sl l1 b1 0 1)] S fun r S' =>
      (S' = S ∧ r = .own 41 4 ((insOf l i u).map encU)) ∨ (S' = upd S l0 b (some (.row 41 4 ((insOf l i u).map encU))) ∧ r = .val (.a (.s (.sl l0 b 0 (l.length + 1))))) := by
  refine AC_reveal (fun N h1 h2 => AC_slOut ((insert_slc l u i l0 b N l1 b1 L S hi h1 h2 hl0 hl1 hne ho ho1 hby).mono ?_)) (by simp only [maxLen]; omega)
  rintro r S' (⟨rfl, rfl⟩ | ⟨rfl, rfl⟩)
  · exact .inl (.inl ⟨rfl, rfl⟩)
  · exact .inr ⟨l0, b, _, N, 41, 4, _, rfl, upd_same _ _ _ _, by rw [List.length_map]; simp [insOf]; omega, .inr ⟨rfl, rfl⟩⟩
theorem insOf_length (l : List U) (i : Nat) (u : U) (hi : i ≤ l.length) : (insOf l i u).length = l.length + 1 := by
  simp only [insOf, List.length_append, List.length_take, List.length_cons, List.length_drop]
  omega
theorem insert_nil (u : U) (l1 b1 L : Nat) (S : Store) (hL : 0 < L) (hl1 : l1 < L) (ho1 : S l1 b1 = some (.row 41 4 [encU u])) :
    AC Try.prog L 77 [uA none, .s (.pv (.lit (.int .i64 0))), .s (.sl l1 b1 0 1)] S fun r S' => S' = S ∧ r = .own 41 4 [encU u] := by
  refine fn_St (n := 95) (rs := [.tmp 6]) hands_own RdT.ok RdT.mixed Try.func77 rfl (by kernel_rfl) rfl rfl rfl (by omega) ?_
  intro hS
  show awp _ _ _ _ _ (St L 95 [(0, nilS), (1, int 0), (2, .a (.s (.sl l1 b1 0 1)))] S [])
  repeat' (first
      | (with_reducible refine want_none ?_)
      | (with_reducible refine c_seq ?_)
      | (with_reducible refine c_region ?_)
      | (with_reducible refine aops_nil ?_)
      | (with_reducible refine k_normal ?_)
      | (with_reducible refine c_skip ?_)
      | (with_reducible refine c_ret ?_)
      | (with_reducible refine k_ret ?_)
      | ((with_reducible apply st_lenown RdT.ok); exact rfl; exact rfl; exact rfl; intro hlen)
      | ((with_reducible apply st_slnil); exact rfl; exact rfl; exact rfl; exact rfl; exact rfl)
      | ((with_reducible apply st_append0A); exact rfl; exact rfl; exact rfl; exact rfl; exact rfl; exact NewsA.sl ((mkO_low _ _ _ hl1).trans ho1); exact ⟨Nat.le_of_ble_eq_true rfl, Nat.le_of_ble_eq_true rfl⟩; exact rfl)
      | ((with_reducible apply st_lennil RdT.ok); exact rfl; exact rfl; exact rfl)
      | ((with_reducible apply st_q RdT.ok); exact rfl; exact rfl)
      | ((with_reducible apply c_condT); exact rfl)
      | ((with_reducible apply c_condF); exact rfl))
  (with_reducible apply r_own); exact rfl; exact .tmp rfl .nil; exact rfl; exact rfl; exact hS; exact ⟨rfl, rfl⟩
end Go.Proofs.Ytfdaioinghfjpaa
namespace Go.Proofs.Ytfdaioinghfjpaa
open Go.Rd Go.RowKit
set_option maxRecDepth 20000
def posOf (at' : Int) : List U → Nat
  | [] => 0
  | u :: r => if at' < u.pos then 0 else posOf at' r + 1
theorem posOf_le (at' : Int) : ∀ l, posOf at' l ≤ l.length
  | [] => Nat.le_refl _
  | u :: r => by
    have := posOf_le at' r
    unfold posOf
    rw [List.length_cons]
    split <;> omega
theorem idx1_pos (at' : Int) : ∀ (l : List U) (k : Nat), idx1 (fun u => decide (at' < u.pos)) k l = if posOf at' l = l.length then -1 else ((k + posOf at' l : Nat) : Int)
  | [], k => rfl
  | u :: r, k => by
    unfold idx1 posOf
    by_cases h : at' < u.pos
    · rw [if_pos (by simpa using h), if_pos h, if_neg (by simp)]
      simp
    · rw [if_neg (by simpa using h), if_neg h, idx1_pos at' r (k + 1)]
      simp only [List.length_cons, Nat.add_right_cancel_iff]
      split
      · rfl
      · congr 1
        omega
def takeU (at' n : Int) : U := ⟨at', n, 1, false⟩
def take (o : Option (List U)) (n : Int) : Option (List U × Int) :=
  if may o = true ∧ n ≤ 8 ∧ 0 ≤ firstOf n (runs1 0 0 (used1 none16 (o.getD []))) then
    some (insOf (o.getD []) (posOf (firstOf n (runs1 0 0 (used1 none16 (o.getD [])))) (o.getD [])) (takeU (firstOf n (runs1 0 0 (used1 none16 (o.getD [])))) n), firstOf n (runs1 0 0 (used1 none16 (o.getD []))))
  else none
def takeV : Option (List U × Int) → TV
  | none => .tup [.s (.pv (.lit (.slice none 0 0))), .s (.pv (.lit (.int .i64 0))), .s (.pv (.lit (.bool false)))]
  | some (l, at') => .tup [uA (some l), .s (.pv (.lit (.int .i64 at'))), .s (.pv (.lit (.bool true)))]
theorem used1_length : ∀ (l : List U) (bs : List Bool), (used1 bs l).length = bs.length := by
  intro l
  induction l with
  | nil => intro bs; rfl
  | cons u r ih => intro bs; unfold used1; rw [ih, mark_length]
set_option maxHeartbeats 4000000 in
theorem take_AC (o : Option (List U)) (n : Int) : ACv Try.prog 19 [uA o, .s (.pv (.lit (.int .i64 n)))] fun v => v = takeV (take o n) := by
  intro L S hL
  refine fn_St (n := 38) (rs := [.tmp 4, .tmp 5, .tmp 6]) hands_val RdT.ok RdT.mixed Try.func19 rfl (by kernel_rfl) rfl rfl rfl (by omega) ?_
  intro hS
  cases o with
  | none =>
    show awp _ _ _ _ _ (St L 38 [(0, nilS), (1, int n)] S [])
    have hmay : may none = true := rfl
    have hused : used none = some none16 := rfl
    obtain ⟨at', hat⟩ : ∃ at', firstOf n (runs1 0 0 none16) = at' := ⟨_, rfl⟩
    have hIdx : ∀ own, alook own 7 = some (.box 3 [.pv (.lit (.int .i64 at'))]) → AC Try.prog (L + 1) 75 [uA none, .s (.clo 76 [(L, 7)])] (mkO S L own) fun r S' => S' = mkO S L own ∧ ∃ v, r = .val v ∧ v = Rd.int (-1) := by
      intro own ho
      exact indexFunc_AC (take1_AC L 7 at') none (L + 1) _ (by omega) ((mkO_own S L own 7).trans ho)
    repeat' (first
        | (with_reducible refine want_none ?_)
        | (with_reducible refine c_seq ?_)
        | (with_reducible refine c_region ?_)
        | (with_reducible refine aops_nil ?_)
        | (with_reducible refine k_normal ?_)
        | (with_reducible refine c_skip ?_)
        | (with_reducible refine c_ret ?_)
        | (with_reducible refine k_ret ?_)
        | ((with_reducible apply want_run); exact rfl; exact rfl)
        | ((with_reducible apply want_skip); exact rfl; exact rfl; exact rfl)
        | ((with_reducible apply st_callv); exact rfl; exact rfl; exact rfl; exact rfl; exact may_AC none; (rintro v rfl); rw [hmay])
        | ((with_reducible apply st_callv); exact rfl; exact rfl; exact rfl; exact rfl; exact used_AC none; (rintro v rfl); rw [hused])
        | ((with_reducible apply st_callv); exact rfl; exact rfl; exact rfl; exact rfl; exact first_AC none16 n (by decide) (by decide); (rintro v rfl); rw [hat])
        | ((with_reducible apply st_callc); exact rfl; exact rfl; exact rfl; exact rfl; exact hIdx _ rfl; (rintro v rfl))
        | ((with_reducible apply d_done); (decide +kernel))
        | ((with_reducible apply d_takeQ RdT.ok 0); (decide +kernel); exact rfl; exact rfl; exact rfl; exact rfl; (decide +kernel); (decide +kernel); exact rfl; exact rfl)
        | ((with_reducible apply d_takeQ RdT.ok 2); (decide +kernel); exact rfl; exact rfl; exact rfl; exact rfl; (decide +kernel); (decide +kernel); exact rfl; exact rfl)
        | ((with_reducible apply d_takeQ RdT.ok 4); (decide +kernel); exact rfl; exact rfl; exact rfl; exact rfl; (decide +kernel); (decide +kernel); exact rfl; exact rfl)
        | ((with_reducible apply d_takeQ RdT.ok 5); (decide +kernel); exact rfl; exact rfl; exact rfl; exact rfl; (decide +kernel); (decide +kernel); exact rfl; exact rfl)
        | ((with_reducible apply d_takeQ RdT.ok 9); (decide +kernel); exact rfl; exact rfl; exact rfl; exact rfl; (decide +kernel); (decide +kernel); exact rfl; exact rfl)
        | ((with_reducible apply d_takeQ RdT.ok 10); (decide +kernel); exact rfl; exact rfl; exact rfl; exact rfl; (decide +kernel); (decide +kernel); exact rfl; exact rfl)
        | ((with_reducible apply d_takeQ RdT.ok 11); (decide +kernel); exact rfl; exact rfl; exact rfl; exact rfl; (decide +kernel); (decide +kernel); exact rfl; exact rfl)
        | ((with_reducible apply d_rs [1, 3, 8]); (decide +kernel); exact rfl)
        | ((with_reducible apply d_rs [3, 8]); (decide +kernel); exact rfl)
        | ((with_reducible apply d_rs [1, 3]); (decide +kernel); exact rfl)
        | ((with_reducible apply d_rs [1, 6, 8]); (decide +kernel); exact rfl)
        | ((with_reducible apply d_rs [6, 8]); (decide +kernel); exact rfl)
        | ((with_reducible apply d_rs [1, 6]); (decide +kernel); exact rfl)
        | ((with_reducible apply d_rs [1, 8]); (decide +kernel); exact rfl)
        | ((with_reducible apply d_rs [7, 8]); (decide +kernel); exact rfl)
        | ((with_reducible apply d_rs [7]); (decide +kernel); exact rfl)
        | ((with_reducible apply d_rs [8]); (decide +kernel); exact rfl)
        | ((with_reducible apply d_rs [3]); (decide +kernel); exact rfl)
        | ((with_reducible apply d_rs [6]); (decide +kernel); exact rfl)
        | ((with_reducible apply d_rs [1]); (decide +kernel); exact rfl)
        | (with_reducible exact allR_nil)
        | ((with_reducible apply allR_cons); exact rfl)
        | ((with_reducible apply st_callv); exact rfl; exact rfl; exact rfl; exact rfl; exact clone_nil; (rintro v rfl))
        | ((with_reducible apply st_buildslice); exact rfl; exact rfl; exact rfl; exact rfl; exact rfl; exact rfl; exact rfl; exact rfl)
        | ((with_reducible apply st_callNO); exact rfl; exact rfl; exact rfl; exact rfl; exact insert_nil (takeU at' n) L 35 (L + 1) _ (by omega) (by omega) (mkO_own _ _ _ _); (rintro r S' ⟨rfl, rfl⟩); (refine .inr ⟨_, _, _, rfl, rfl, ?_⟩))
        | ((with_reducible refine c_regionA 12 ?_ ?_); exact rfl)
        | ((with_reducible apply st_alloc); exact rfl; exact rfl; exact rfl; exact rfl)
        | ((with_reducible apply st_load); exact rfl; exact rfl; exact rfl; exact rfl; exact rfl)
        | ((with_reducible apply st_store); exact rfl; exact rfl; exact rfl; exact rfl; exact rfl; exact rfl)
        | ((with_reducible apply st_len RdT.ok); exact rfl; exact rfl; exact rfl; intro hlen)
        | ((with_reducible apply st_lennil RdT.ok); exact rfl; exact rfl; exact rfl)
        | ((with_reducible apply st_q RdT.ok); exact rfl; exact rfl)
        | ((with_reducible apply c_condT); exact rfl)
        | ((with_reducible apply c_condF); exact rfl)
        | ((with_reducible apply c_cond); exact rfl; (first | exact Bp.not Bp.dec | exact Bp.dec | exact Bp.not Bp.bool | exact Bp.bool); all_goals intro hc))
    all_goals first
      | (
         (with_reducible apply r_tup); exact rfl; exact .tmp rfl (.tmp rfl (.tmp rfl .nil)); exact rfl; exact .cons (.s (.pv _)) (.cons (.s (.pv _)) (.cons (.s (.pv _)) .nil)); exact hS
         refine ⟨rfl, _, rfl, ?_⟩
         rw [take, if_neg (by rw [show (none : Option (List U)).getD [] = [] from rfl, show used1 none16 [] = none16 from rfl, hat]; omega)]
         rfl)
      | (
         (with_reducible apply r_tup); exact rfl; exact .tmp rfl (.tmp rfl (.tmp rfl .nil)); exact rfl; exact .cons (.s (.sl rfl rfl)) (.cons (.s (.pv _)) (.cons (.s (.pv _)) .nil)); exact hS
         refine ⟨rfl, _, rfl, ?_⟩
         rw [take, show (none : Option (List U)).getD [] = [] from rfl, show used1 none16 [] = none16 from rfl, hat, if_pos ⟨hmay, by omega, by omega⟩]
         rfl)
  | some l =>
    show awp _ _ _ _ _ (St L 38 [(0, row 4 (l.map encU)), (1, int n)] S [])
    cases hmay : may (some l) with
    | false =>
      repeat' (first
          | (with_reducible refine want_none ?_)
          | (with_reducible refine c_seq ?_)
          | (with_reducible refine c_region ?_)
          | (with_reducible refine aops_nil ?_)
          | (with_reducible refine k_normal ?_)
          | (with_reducible refine c_skip ?_)
          | (with_reducible refine c_ret ?_)
          | (with_reducible refine k_ret ?_)
          | ((with_reducible apply want_run); exact rfl; exact rfl)
          | ((with_reducible apply want_skip); exact rfl; exact rfl; exact rfl)
          | ((with_reducible apply st_callv); exact rfl; exact rfl; exact rfl; exact rfl; exact may_AC (some l); (rintro v rfl); rw [hmay])
          | ((with_reducible apply st_alloc); exact rfl; exact rfl; exact rfl; exact rfl)
          | ((with_reducible apply st_load); exact rfl; exact rfl; exact rfl; exact rfl; exact rfl)
          | ((with_reducible apply st_store); exact rfl; exact rfl; exact rfl; exact rfl; exact rfl; exact rfl)
          | ((with_reducible apply st_len RdT.ok); exact rfl; exact rfl; exact rfl; intro hlen)
          | ((with_reducible apply st_lennil RdT.ok); exact rfl; exact rfl; exact rfl)
          | ((with_reducible apply st_q RdT.ok); exact rfl; exact rfl)
          | ((with_reducible apply c_condT); exact rfl)
          | ((with_reducible apply c_condF); exact rfl)
          | ((with_reducible apply c_cond); exact rfl; (first | exact Bp.not Bp.dec | exact Bp.dec | exact Bp.not Bp.bool | exact Bp.bool); all_goals intro hc))
      all_goals
        (with_reducible apply r_tup); exact rfl; exact .tmp rfl (.tmp rfl (.tmp rfl .nil)); exact rfl; exact .cons (.s (.pv _)) (.cons (.s (.pv _)) (.cons (.s (.pv _)) .nil)); exact hS
        refine ⟨rfl, _, rfl, ?_⟩
        rw [take, if_neg (by rw [hmay]; simp)]
        rfl
    | true =>
      have hlen16 : (l.length : Int) ≤ 16 := by
        have := may1_length l 0 hmay
        omega
      have hused : used (some l) = some (used1 none16 l) := by rw [used, if_pos hmay]; rfl
      obtain ⟨at', hat⟩ : ∃ at', firstOf n (runs1 0 0 (used1 none16 l)) = at' := ⟨_, rfl⟩
      have hbl : (used1 none16 l).length < 9223372036854775807 := by rw [used1_length]; decide
      have hbn : used1 none16 l ≠ [] := fun h => by have := congrArg List.length h; rw [used1_length] at this; cases this
      have hple := posOf_le at' l
      have hIdx : ∀ own, alook own 7 = some (.box 3 [.pv (.lit (.int .i64 at'))]) → AC Try.prog (L + 1) 75 [uA (some l), .s (.clo 76 [(L, 7)])] (mkO S L own) fun r S' => S' = mkO S L own ∧ ∃ v, r = .val v ∧ v = Rd.int (idx1 (fun u => decide (at' < u.pos)) 0 l) := by
        intro own ho
        exact indexFunc_AC (take1_AC L 7 at') (some l) (L + 1) _ (by omega) ((mkO_own S L own 7).trans ho)
      by_cases hp : posOf at' l = l.length
      · have hidx : idx1 (fun u => decide (at' < u.pos)) 0 l = -1 := by rw [idx1_pos, if_pos hp]
        repeat' (first
            | (with_reducible refine want_none ?_)
            | (with_reducible refine c_seq ?_)
            | (with_reducible refine c_region ?_)
            | (with_reducible refine aops_nil ?_)
            | (with_reducible refine k_normal ?_)
            | (with_reducible refine c_skip ?_)
            | (with_reducible refine c_ret ?_)
            | (with_reducible refine k_ret ?_)
            | ((with_reducible apply want_run); exact rfl; exact rfl)
            | ((with_reducible apply want_skip); exact rfl; exact rfl; exact rfl)
            | ((with_reducible apply st_callv); exact rfl; exact rfl; exact rfl; exact rfl; exact may_AC (some l); (rintro v rfl); rw [hmay])
            | ((with_reducible apply st_callv); exact rfl; exact rfl; exact rfl; exact rfl; exact used_AC (some l); (rintro v rfl); rw [hused])
            | ((with_reducible apply st_callv); exact rfl; exact rfl; exact rfl; exact rfl; exact first_AC (used1 none16 l) n hbl hbn; (rintro v rfl); rw [hat])
            | ((with_reducible apply st_callc); exact rfl; exact rfl; exact rfl; exact rfl; exact hIdx _ rfl; (rintro v rfl); rw [hidx])
            | ((with_reducible apply d_done); (decide +kernel))
            | ((with_reducible apply d_takeQ RdT.ok 0); (decide +kernel); exact rfl; exact rfl; exact rfl; exact rfl; (decide +kernel); (decide +kernel); exact rfl; exact rfl)
            | ((with_reducible apply d_takeQ RdT.ok 2); (decide +kernel); exact rfl; exact rfl; exact rfl; exact rfl; (decide +kernel); (decide +kernel); exact rfl; exact rfl)
            | ((with_reducible apply d_takeQ RdT.ok 4); (decide +kernel); exact rfl; exact rfl; exact rfl; exact rfl; (decide +kernel); (decide +kernel); exact rfl; exact rfl)
            | ((with_reducible apply d_takeQ RdT.ok 5); (decide +kernel); exact rfl; exact rfl; exact rfl; exact rfl; (decide +kernel); (decide +kernel); exact rfl; exact rfl)
            | ((with_reducible apply d_takeQ RdT.ok 9); (decide +kernel); exact rfl; exact rfl; exact rfl; exact rfl; (decide +kernel); (decide +kernel); exact rfl; exact rfl)
            | ((with_reducible apply d_takeQ RdT.ok 10); (decide +kernel); exact rfl; exact rfl; exact rfl; exact rfl; (decide +kernel); (decide +kernel); exact rfl; exact rfl)
            | ((with_reducible apply d_takeQ RdT.ok 11); (decide +kernel); exact rfl; exact rfl; exact rfl; exact rfl; (decide +kernel); (decide +kernel); exact rfl; exact rfl)
            | ((with_reducible apply d_rs [1, 3, 8]); (decide +kernel); exact rfl)
            | ((with_reducible apply d_rs [3, 8]); (decide +kernel); exact rfl)
            | ((with_reducible apply d_rs [1, 3]); (decide +kernel); exact rfl)
            | ((with_reducible apply d_rs [1, 6, 8]); (decide +kernel); exact rfl)
            | ((with_reducible apply d_rs [6, 8]); (decide +kernel); exact rfl)
            | ((with_reducible apply d_rs [1, 6]); (decide +kernel); exact rfl)
            | ((with_reducible apply d_rs [1, 8]); (decide +kernel); exact rfl)
            | ((with_reducible apply d_rs [7, 8]); (decide +kernel); exact rfl)
            | ((with_reducible apply d_rs [7]); (decide +kernel); exact rfl)
            | ((with_reducible apply d_rs [8]); (decide +kernel); exact rfl)
            | ((with_reducible apply d_rs [3]); (decide +kernel); exact rfl)
            | ((with_reducible apply d_rs [6]); (decide +kernel); exact rfl)
            | ((with_reducible apply d_rs [1]); (decide +kernel); exact rfl)
            | (with_reducible exact allR_nil)
            | ((with_reducible apply allR_cons); exact rfl)
            | ((with_reducible apply st_callo); exact rfl; exact rfl; exact rfl; exact rfl; exact clone_row l (by omega); (rintro es rfl; rw [List.length_map]))
            | ((with_reducible apply st_buildslice); exact rfl; exact rfl; exact rfl; exact rfl; exact rfl; exact rfl; exact rfl; exact rfl)
            | ((with_reducible apply st_callNO); exact rfl; exact rfl; exact rfl; exact rfl; exact insert_AC l (takeU at' n) l.length L 30 L 35 (L + 1) _ (by omega) (by omega) (by omega) (by simp) (mkO_own _ _ _ _) (mkO_own _ _ _ _) (by omega); (rintro r S' (⟨rfl, rfl⟩ | ⟨rfl, rfl⟩)); (refine .inr ⟨_, _, _, rfl, rfl, ?_⟩); rotate_left; (refine .inl ⟨_, _, rfl, mkO_aset rfl, ?_⟩))
            | ((with_reducible refine c_regionA 12 ?_ ?_); exact rfl)
            | ((with_reducible apply st_alloc); exact rfl; exact rfl; exact rfl; exact rfl)
            | ((with_reducible apply st_load); exact rfl; exact rfl; exact rfl; exact rfl; exact rfl)
            | ((with_reducible apply st_store); exact rfl; exact rfl; exact rfl; exact rfl; exact rfl; exact rfl)
            | ((with_reducible apply st_len RdT.ok); exact rfl; exact rfl; exact rfl; intro hlen)
            | ((with_reducible apply st_lennil RdT.ok); exact rfl; exact rfl; exact rfl)
            | ((with_reducible apply st_q RdT.ok); exact rfl; exact rfl)
            | ((with_reducible apply c_condT); exact rfl)
            | ((with_reducible apply c_condF); exact rfl)
            | ((with_reducible apply c_cond); exact rfl; (first | exact Bp.not Bp.dec | exact Bp.dec | exact Bp.not Bp.bool | exact Bp.bool); all_goals intro hc))
        all_goals first
          | (
             (with_reducible apply r_tup); exact rfl; exact .tmp rfl (.tmp rfl (.tmp rfl .nil)); exact rfl; exact .cons (.s (.pv _)) (.cons (.s (.pv _)) (.cons (.s (.pv _)) .nil)); exact hS
             refine ⟨rfl, _, rfl, ?_⟩
             rw [take, if_neg (by rw [show (some l).getD [] = l from rfl, hat]; omega)]
             rfl)
          | (
             (with_reducible apply r_tup); exact rfl; exact .tmp rfl (.tmp rfl (.tmp rfl .nil)); exact rfl; exact .cons (.s (.sl rfl (by first | rfl | (rw [List.length_map, insOf_length _ _ _ (by omega)])))) (.cons (.s (.pv _)) (.cons (.s (.pv _)) .nil)); exact hS
             refine ⟨rfl, _, rfl, ?_⟩
             rw [take, show (some l).getD [] = l from rfl, hat, if_pos ⟨hmay, by omega, by omega⟩]
             first | rfl | (rw [hp]; rfl))
      · have hidx : idx1 (fun u => decide (at' < u.pos)) 0 l = (posOf at' l : Int) := by rw [idx1_pos, if_neg hp, Nat.zero_add]
        repeat' (first
            | (with_reducible refine want_none ?_)
            | (with_reducible refine c_seq ?_)
            | (with_reducible refine c_region ?_)
            | (with_reducible refine aops_nil ?_)
            | (with_reducible refine k_normal ?_)
            | (with_reducible refine c_skip ?_)
            | (with_reducible refine c_ret ?_)
            | (with_reducible refine k_ret ?_)
            | ((with_reducible apply want_run); exact rfl; exact rfl)
            | ((with_reducible apply want_skip); exact rfl; exact rfl; exact rfl)
            | ((with_reducible apply st_callv); exact rfl; exact rfl; exact rfl; exact rfl; exact may_AC (some l); (rintro v rfl); rw [hmay])
            | ((with_reducible apply st_callv); exact rfl; exact rfl; exact rfl; exact rfl; exact used_AC (some l); (rintro v rfl); rw [hused])
            | ((with_reducible apply st_callv); exact rfl; exact rfl; exact rfl; exact rfl; exact first_AC (used1 none16 l) n hbl hbn; (rintro v rfl); rw [hat])
            | ((with_reducible apply st_callc); exact rfl; exact rfl; exact rfl; exact rfl; exact hIdx _ rfl; (rintro v rfl); rw [hidx])
            | ((with_reducible apply d_done); (decide +kernel))
            | ((with_reducible apply d_takeQ RdT.ok 0); (decide +kernel); exact rfl; exact rfl; exact rfl; exact rfl; (decide +kernel); (decide +kernel); exact rfl; exact rfl)
            | ((with_reducible apply d_takeQ RdT.ok 2); (decide +kernel); exact rfl; exact rfl; exact rfl; exact rfl; (decide +kernel); (decide +kernel); exact rfl; exact rfl)
            | ((with_reducible apply d_takeQ RdT.ok 4); (decide +kernel); exact rfl; exact rfl; exact rfl; exact rfl; (decide +kernel); (decide +kernel); exact rfl; exact rfl)
            | ((with_reducible apply d_takeQ RdT.ok 5); (decide +kernel); exact rfl; exact rfl; exact rfl; exact rfl; (decide +kernel); (decide +kernel); exact rfl; exact rfl)
            | ((with_reducible apply d_takeQ RdT.ok 9); (decide +kernel); exact rfl; exact rfl; exact rfl; exact rfl; (decide +kernel); (decide +kernel); exact rfl; exact rfl)
            | ((with_reducible apply d_takeQ RdT.ok 10); (decide +kernel); exact rfl; exact rfl; exact rfl; exact rfl; (decide +kernel); (decide +kernel); exact rfl; exact rfl)
            | ((with_reducible apply d_takeQ RdT.ok 11); (decide +kernel); exact rfl; exact rfl; exact rfl; exact rfl; (decide +kernel); (decide +kernel); exact rfl; exact rfl)
            | ((with_reducible apply d_rs [1, 3, 8]); (decide +kernel); exact rfl)
            | ((with_reducible apply d_rs [3, 8]); (decide +kernel); exact rfl)
            | ((with_reducible apply d_rs [1, 3]); (decide +kernel); exact rfl)
            | ((with_reducible apply d_rs [1, 6, 8]); (decide +kernel); exact rfl)
            | ((with_reducible apply d_rs [6, 8]); (decide +kernel); exact rfl)
            | ((with_reducible apply d_rs [1, 6]); (decide +kernel); exact rfl)
            | ((with_reducible apply d_rs [1, 8]); (decide +kernel); exact rfl)
            | ((with_reducible apply d_rs [7, 8]); (decide +kernel); exact rfl)
            | ((with_reducible apply d_rs [7]); (decide +kernel); exact rfl)
            | ((with_reducible apply d_rs [8]); (decide +kernel); exact rfl)
            | ((with_reducible apply d_rs [3]); (decide +kernel); exact rfl)
            | ((with_reducible apply d_rs [6]); (decide +kernel); exact rfl)
            | ((with_reducible apply d_rs [1]); (decide +kernel); exact rfl)
            | (with_reducible exact allR_nil)
            | ((with_reducible apply allR_cons); exact rfl)
            | ((with_reducible apply st_callo); exact rfl; exact rfl; exact rfl; exact rfl; exact clone_row l (by omega); (rintro es rfl; rw [List.length_map]))
            | ((with_reducible apply st_buildslice); exact rfl; exact rfl; exact rfl; exact rfl; exact rfl; exact rfl; exact rfl; exact rfl)
            | ((with_reducible apply st_callNO); exact rfl; exact rfl; exact rfl; exact rfl; exact insert_AC l (takeU at' n) (posOf at' l) L 30 L 35 (L + 1) _ (by omega) (by omega) (by omega) (by simp) (mkO_own _ _ _ _) (mkO_own _ _ _ _) (by omega); (rintro r S' (⟨rfl, rfl⟩ | ⟨rfl, rfl⟩)); (refine .inr ⟨_, _, _, rfl, rfl, ?_⟩); rotate_left; (refine .inl ⟨_, _, rfl, mkO_aset rfl, ?_⟩))
            | ((with_reducible refine c_regionA 12 ?_ ?_); exact rfl)
            | (exfalso; omega)
            | ((with_reducible apply st_alloc); exact rfl; exact rfl; exact rfl; exact rfl)
            | ((with_reducible apply st_load); exact rfl; exact rfl; exact rfl; exact rfl; exact rfl)
            | ((with_reducible apply st_store); exact rfl; exact rfl; exact rfl; exact rfl; exact rfl; exact rfl)
            | ((with_reducible apply st_len RdT.ok); exact rfl; exact rfl; exact rfl; intro hlen)
            | ((with_reducible apply st_lennil RdT.ok); exact rfl; exact rfl; exact rfl)
            | ((with_reducible apply st_q RdT.ok); exact rfl; exact rfl)
            | ((with_reducible apply c_condT); exact rfl)
            | ((with_reducible apply c_condF); exact rfl)
            | ((with_reducible apply c_cond); exact rfl; (first | exact Bp.not Bp.dec | exact Bp.dec | exact Bp.not Bp.bool | exact Bp.bool); all_goals intro hc))
        all_goals first
          | (
             (with_reducible apply r_tup); exact rfl; exact .tmp rfl (.tmp rfl (.tmp rfl .nil)); exact rfl; exact .cons (.s (.pv _)) (.cons (.s (.pv _)) (.cons (.s (.pv _)) .nil)); exact hS
             refine ⟨rfl, _, rfl, ?_⟩
             rw [take, if_neg (by rw [show (some l).getD [] = l from rfl, hat]; omega)]
             rfl)
          | (
             (with_reducible apply r_tup); exact rfl; exact .tmp rfl (.tmp rfl (.tmp rfl .nil)); exact rfl; exact .cons (.s (.sl rfl (by first | rfl | (rw [List.length_map, insOf_length _ _ _ (by omega)])))) (.cons (.s (.pv _)) (.cons (.s (.pv _)) .nil)); exact hS
             refine ⟨rfl, _, rfl, ?_⟩
             rw [take, show (some l).getD [] = l from rfl, hat, if_pos ⟨hmay, by omega, by omega⟩]
             first | rfl | (rw [hp]; rfl))
end Go.Proofs.Ytfdaioinghfjpaa
namespace Go.Proofs.Ytfdaioinghfjpaa
open Go.Rd Go.RowKit
set_option maxRecDepth 20000
set_option linter.unusedSimpArgs false
set_option linter.unusedVariables false
set_option maxHeartbeats 4000000
theorem takeV_eq (t : Option (List U × Int)) : takeV t = .tup [uA (t.map (·.1)), .s (.pv (.lit (.int .i64 ((t.map (·.2)).getD 0)))), .s (.pv (.lit (.bool t.isSome)))] := by
  rcases t with _ | ⟨l, a⟩ <;> rfl
theorem mayC_len {o : Option (List Tb)} (h : mayC o = true) : 1 ≤ (o.getD []).length ∧ (o.getD []).length ≤ 1000 := by
  unfold mayC at h
  rw [Bool.and_eq_true] at h
  exact of_decide_eq_true h.1
theorem mayC_mem {o : Option (List Tb)} (h : mayC o = true) : ∀ t ∈ o.getD [], may t = true := by
  unfold mayC at h
  rw [Bool.and_eq_true] at h
  exact List.all_eq_true.1 h.2
theorem may_len {t : Tb} (h : may t = true) : (t.getD []).length ≤ 16 := by
  have := may1_length _ 0 h
  omega
theorem mayC_fits {o : Option (List Tb)} (h : mayC o = true) : (o.getD []).length * 24 ≤ 140737488355328 ∧ ∀ t ∈ o.getD [], (t.getD []).length * 32 ≤ 140737488355328 :=
  ⟨by have := (mayC_len h).2; omega, fun t ht => by have := may_len (mayC_mem h t ht); omega⟩
def takeC1 (n no : Int) (k : Nat) : List Tb → Option (Nat × Option (List U × Int))
  | [] => none
  | t :: r => if (k : Int) = no then takeC1 n no (k + 1) r else if (take t n).isSome = true then some (k, take t n) else takeC1 n no (k + 1) r
def takeC (o : Option (List Tb)) (n no : Int) : Option (List Tb × Int × Int) :=
  if mayC o = true then (takeC1 n no 0 (o.getD [])).map fun p => ((o.getD []).set p.1 (p.2.map (·.1)), (p.1 : Int), (p.2.map (·.2)).getD 0) else none
def takeCV : Option (List Tb × Int × Int) → TV
  | none => .tup [.s (.pv (.lit (.slice none 0 0))), .s (.pv (.lit (.int .i64 0))), .s (.pv (.lit (.int .i64 0))), .s (.pv (.lit (.bool false)))]
  | some (c, i, a) => .tup [cA (some c), .s (.pv (.lit (.int .i64 i))), .s (.pv (.lit (.int .i64 a))), .s (.pv (.lit (.bool true)))]
theorem takeC_AC (o : Option (List Tb)) (n no : Int) : ACv Try.prog 42 [cA o, .s (.pv (.lit (.int .i64 n))), .s (.pv (.lit (.int .i64 no)))] fun v => v = takeCV (takeC o n no) := by
  intro L S hL
  refine fn_St (n := 47) (rs := [.tmp 6, .tmp 7, .tmp 8, .tmp 9]) hands_val RdT.ok RdT.mixed Try.func42 rfl (by kernel_rfl) rfl rfl rfl (by omega) ?_
  intro hS
  cases hmay : mayC o with
  | false =>
    show awp _ _ _ _ _ (St L 47 [(0, .a (cA o)), (1, int n), (2, int no)] S [])
    repeat' (first
        | (with_reducible refine want_none ?_)
        | (with_reducible refine c_seq ?_)
        | (with_reducible refine c_region ?_)
        | (with_reducible refine c_block ?_)
        | (with_reducible refine aops_nil ?_)
        | (with_reducible refine k_normal ?_)
        | (with_reducible refine c_skip ?_)
        | (with_reducible refine c_exit ?_)
        | (with_reducible refine c_ret ?_)
        | (with_reducible refine k_ret ?_)
        | (with_reducible refine k_exit ?_)
        | (with_reducible refine kr_ret ?_)
        | (with_reducible refine kr_exit ?_)
        | (with_reducible refine kb_normal ?_)
        | (with_reducible refine kb_ret ?_)
        | (with_reducible refine kb_hit ?_)
        | ((with_reducible apply st_callv); exact rfl; exact rfl; exact rfl; exact rfl; exact mayC_AC o; (rintro v rfl); rw [hmay])
        | ((with_reducible apply st_loadpel); exact rfl; exact rfl; omega; exact rfl; (intro u hu; refine ⟨_, rfl, ?_⟩; try simp only [Int.toNat_natCast] at hu))
        | ((with_reducible apply st_idx); exact rfl; exact rfl; exact rfl; exact rfl; exact rfl; omega)
        | ((with_reducible apply st_len RdT.ok); exact rfl; exact rfl; exact rfl; intro hlen)
        | ((with_reducible apply st_add); exact rfl; exact rfl; exact rfl; omega)
        | ((with_reducible apply st_q RdT.ok); exact rfl; exact rfl)
        | ((with_reducible apply c_condT); exact rfl)
        | ((with_reducible apply c_condF); exact rfl)
        | ((with_reducible apply c_cond); exact rfl; (first | exact Bp.not Bp.dec | exact Bp.dec | exact Bp.not Bp.bool | exact Bp.bool); all_goals intro hc))
    (with_reducible apply r_tup); exact rfl; exact .tmp rfl (.tmp rfl (.tmp rfl (.tmp rfl .nil))); exact rfl; exact .cons (.s (.pv _)) (.cons (.s (.pv _)) (.cons (.s (.pv _)) (.cons (.s (.pv _)) .nil))); exact hS; refine ⟨rfl, _, rfl, ?_⟩
    rw [takeC, if_neg (by rw [hmay]; simp)]; rfl
  | true =>
    obtain ⟨hl, hls⟩ := mayC_fits hmay
    have hln := mayC_len hmay
    cases o with
    | none => exact absurd hln.1 (by simp)
    | some l =>
      simp only [Option.getD_some] at hl hls hln
      rw [takeC, if_pos hmay, Option.getD_some]
      show awp _ _ _ _ _ (St L 47 [(0, row 1 (l.map encC)), (1, int n), (2, int no)] S [])
      repeat' (first
          | (with_reducible refine want_none ?_)
          | (with_reducible refine c_seq ?_)
          | (with_reducible refine c_region ?_)
          | (with_reducible refine c_block ?_)
          | (with_reducible refine aops_nil ?_)
          | (with_reducible refine k_normal ?_)
          | (with_reducible refine c_skip ?_)
          | (with_reducible refine c_exit ?_)
          | (with_reducible refine c_ret ?_)
          | (with_reducible refine k_ret ?_)
          | (with_reducible refine k_exit ?_)
          | (with_reducible refine kr_ret ?_)
          | (with_reducible refine kr_exit ?_)
          | (with_reducible refine kb_normal ?_)
          | (with_reducible refine kb_ret ?_)
          | (with_reducible refine kb_hit ?_)
          | ((with_reducible apply st_callv); exact rfl; exact rfl; exact rfl; exact rfl; exact mayC_AC (some l); (rintro v rfl); rw [hmay])
          | ((with_reducible apply st_loadpel); exact rfl; exact rfl; omega; exact rfl; (intro u hu; refine ⟨_, rfl, ?_⟩; try simp only [Int.toNat_natCast] at hu))
          | ((with_reducible apply st_idx); exact rfl; exact rfl; exact rfl; exact rfl; exact rfl; omega)
          | ((with_reducible apply st_len RdT.ok); exact rfl; exact rfl; exact rfl; intro hlen)
          | ((with_reducible apply st_add); exact rfl; exact rfl; exact rfl; omega)
          | ((with_reducible apply st_q RdT.ok); exact rfl; exact rfl)
          | ((with_reducible apply c_condT); exact rfl)
          | ((with_reducible apply c_condF); exact rfl)
          | ((with_reducible apply c_cond); exact rfl; (first | exact Bp.not Bp.dec | exact Bp.dec | exact Bp.not Bp.bool | exact Bp.bool); all_goals intro hc))
      refine c_loop (β := Nat) (fun k => k ≤ l.length ∧ takeC1 n no 0 l = takeC1 n no k (l.drop k)) (fun k => l.length - k) (fun k => [(0, row 1 (l.map encC)), (1, int n), (2, int no), (19, row 1 (l.map encC)), (20, int l.length), (21, int k)]) (fun _ => []) 0 ⟨Nat.zero_le _, rfl⟩ ⟨rfl, rfl, rfl, rfl, rfl, rfl, trivial⟩ trivial rfl rfl ?_
      rintro k ⟨hk, hm⟩
      repeat' (first
          | (with_reducible refine want_none ?_)
          | (with_reducible refine c_seq ?_)
          | (with_reducible refine c_region ?_)
          | (with_reducible refine c_block ?_)
          | (with_reducible refine aops_nil ?_)
          | (with_reducible refine k_normal ?_)
          | (with_reducible refine c_skip ?_)
          | (with_reducible refine c_exit ?_)
          | (with_reducible refine c_ret ?_)
          | (with_reducible refine k_ret ?_)
          | (with_reducible refine k_exit ?_)
          | (with_reducible refine kr_ret ?_)
          | (with_reducible refine kr_exit ?_)
          | (with_reducible refine kb_normal ?_)
          | (with_reducible refine kb_ret ?_)
          | (with_reducible refine kb_hit ?_)
          | ((with_reducible apply st_callv); exact rfl; exact rfl; exact rfl; exact rfl; exact take_AC u n; (rintro v rfl); rw [takeV_eq])
          | ((with_reducible apply st_callo); exact rfl; exact rfl; exact rfl; exact rfl; exact copied_row l hl hls; (rintro es rfl))
          | ((with_reducible apply st_idxown); exact rfl; exact rfl; exact rfl; exact rfl; exact rfl; exact rfl; (rw [List.length_map]; omega))
          | ((with_reducible apply st_storeprU); exact rfl; exact rfl; exact rfl; exact rfl; exact rfl; exact rfl; omega; (intro b hb; refine ⟨(take u n).map (·.1), _, rfl, rfl, rfl, ?_⟩))
          | ((with_reducible apply st_loadpel); exact rfl; exact rfl; omega; exact rfl; (intro u hu; refine ⟨_, rfl, ?_⟩; try simp only [Int.toNat_natCast] at hu))
          | ((with_reducible apply st_idx); exact rfl; exact rfl; exact rfl; exact rfl; exact rfl; omega)
          | ((with_reducible apply st_len RdT.ok); exact rfl; exact rfl; exact rfl; intro hlen)
          | ((with_reducible apply st_add); exact rfl; exact rfl; exact rfl; omega)
          | ((with_reducible apply st_q RdT.ok); exact rfl; exact rfl)
          | ((with_reducible apply c_condT); exact rfl)
          | ((with_reducible apply c_condF); exact rfl)
          | ((with_reducible apply c_cond); exact rfl; (first | exact Bp.not Bp.dec | exact Bp.dec | exact Bp.not Bp.bool | exact Bp.bool); all_goals intro hc))
      · ((with_reducible refine k_back (k + 1) ?_ ?_ ?_ ?_ ?_ ?_); rotate_left; rotate_left; exact (by repeat' (first
                                                                                                           | exact trivial
                                                                                                           | (refine And.intro rfl ?_))); exact (by repeat' (first
                                                                                                                                                                                   | exact trivial
                                                                                                                                                                                   | (refine And.intro rfl ?_))); exact rfl; exact rfl)
        · exact ⟨by omega, by rw [hm, drop_consG hu, takeC1, if_pos (by assumption)]⟩
        · omega
      · (with_reducible apply r_tup); exact rfl; exact .tmp rfl (.tmp rfl (.tmp rfl (.tmp rfl .nil))); exact rfl; exact .cons (.s (.sl rfl (by rw [List.length_map, List.length_map, List.length_set]))) (.cons (.s (.pv _)) (.cons (.s (.pv _)) (.cons (.s (.pv _)) .nil))); exact hS; refine ⟨rfl, _, rfl, ?_⟩
        rw [hm, drop_consG hu, takeC1, if_neg (by assumption), if_pos hc]
        rfl
      · ((with_reducible refine k_back (k + 1) ?_ ?_ ?_ ?_ ?_ ?_); rotate_left; rotate_left; exact (by repeat' (first
                                                                                                           | exact trivial
                                                                                                           | (refine And.intro rfl ?_))); exact (by repeat' (first
                                                                                                                                                                                   | exact trivial
                                                                                                                                                                                   | (refine And.intro rfl ?_))); exact rfl; exact rfl)
        · exact ⟨by omega, by rw [hm, drop_consG hu, takeC1, if_neg (by assumption), if_neg (by assumption)]⟩
        · omega
      · (with_reducible apply r_tup); exact rfl; exact .tmp rfl (.tmp rfl (.tmp rfl (.tmp rfl .nil))); exact rfl; exact .cons (.s (.pv _)) (.cons (.s (.pv _)) (.cons (.s (.pv _)) (.cons (.s (.pv _)) .nil))); exact hS; refine ⟨rfl, _, rfl, ?_⟩
        rw [hm, List.drop_of_length_le (by omega)]
        rfl
end Go.Proofs.Ytfdaioinghfjpaa
namespace Go.Proofs.Ytfdaioinghfjpaa
open Go.Rd Go.RowKit
set_option maxRecDepth 20000
def turnL (at' by' : Int) : List U → List U
  | [] => []
  | u :: r => if u.pos = at' then (if u.count + by' = 0 ∧ u.old = false then r else { u with count := u.count + by' } :: r) else u :: turnL at' by' r
def turnO (o : Option (List U)) (at' by' : Int) : Option (List U) :=
  if may o = true ∧ countOf at' (o.getD []) ≠ 0 ∧ countOf at' (o.getD []) + by' ≤ 1000000 then some (turnL at' by' (o.getD [])) else none
def turnV : Option (List U) → TV
  | none => noTurn
  | some l => .tup [uA (some l), .s (.pv (.lit (.bool true)))]
theorem countOf_at : ∀ (l : List U) (j : Nat) (u : U), l[j]? = some u → (∀ (i : Nat) (x : U), i < j → l[i]? = some x → x.pos ≠ u.pos) → countOf u.pos l = u.count
  | [], j, u, h, _ => by simp at h
  | v :: r, 0, u, h, _ => by simp at h; subst h; simp [countOf]
  | v :: r, j + 1, u, h, hf => by
    rw [countOf, if_neg (hf 0 v (by omega) rfl)]
    exact countOf_at r j u (by simpa using h) fun i x hi hx => hf (i + 1) x (by omega) (by simpa using hx)
theorem turn1_L (by' : Int) : ∀ (l : List U) (j : Nat) (u : U), l[j]? = some u → (∀ (i : Nat) (x : U), i < j → l[i]? = some x → x.pos ≠ u.pos) → turn1 l j u by' = turnL u.pos by' l
  | [], j, u, h, _ => by simp at h
  | v :: r, 0, u, h, _ => by
    simp at h
    subst h
    unfold turn1 turnL
    rw [if_pos rfl]
    split <;> rfl
  | v :: r, j + 1, u, h, hf => by
    rw [turnL, if_neg (hf 0 v (by omega) rfl), ← turn1_L by' r j u (by simpa using h) fun i x hi hx => hf (i + 1) x (by omega) (by simpa using hx)]
    unfold turn1
    split <;> rfl
theorem turn_det {l : List U} {at' by' : Int} {v : TV} (h : Turn l at' by' v) : v = turnV (turnO (some l) at' by') := by
  cases h with
  | no h =>
    rw [turnO, if_neg (by
      rintro ⟨h1, h2, h3⟩
      rcases h with h | h | h
      · rw [h] at h1; cases h1
      · exact h2 h
      · have h3' : countOf at' l + by' ≤ 1000000 := h3
        omega)]
    rfl
  | yes j u hm hu hp hf hc hb =>
    subst hp
    have h1 := countOf_at l j u hu hf
    rw [turnO, if_pos ⟨hm, by rw [show (some l).getD [] = l from rfl, h1]; exact hc, by rw [show (some l).getD [] = l from rfl, h1]; exact hb⟩, turn1_L by' l j u hu hf]
    rfl
theorem incO_AC (o : Option (List U)) (at' : Int) : ACv Try.prog 21 [uA o, .s (.pv (.lit (.int .i64 at')))] fun v => v = turnV (turnO o at' 1) := by
  intro L S hL
  cases o with
  | none => exact (inc_nil at' L S hL).mono fun r S' ⟨h1, v, h2, h3⟩ => ⟨h1, v, h2, h3⟩
  | some l => exact (inc_AC l at' L S hL).mono fun r S' ⟨h1, v, h2, h3⟩ => ⟨h1, v, h2, turn_det h3⟩
theorem decO_AC (o : Option (List U)) (at' : Int) : ACv Try.prog 23 [uA o, .s (.pv (.lit (.int .i64 at')))] fun v => v = turnV (turnO o at' (-1)) := by
  intro L S hL
  cases o with
  | none => exact (dec_nil at' L S hL).mono fun r S' ⟨h1, v, h2, h3⟩ => ⟨h1, v, h2, h3⟩
  | some l => exact (dec_AC l at' L S hL).mono fun r S' ⟨h1, v, h2, h3⟩ => ⟨h1, v, h2, turn_det h3⟩
end Go.Proofs.Ytfdaioinghfjpaa
namespace Go.Proofs.Ytfdaioinghfjpaa
open Go.Rd Go.RowKit
set_option maxRecDepth 20000
set_option linter.unusedSimpArgs false
set_option linter.unusedVariables false
set_option maxHeartbeats 4000000
theorem turnV_eq (t : Option (List U)) : turnV t = .tup [uA t, .s (.pv (.lit (.bool t.isSome)))] := by
  rcases t with _ | l <;> rfl
theorem idx1_any (p : U → Bool) : ∀ (l : List U) (k : Nat), decide (0 ≤ idx1 p k l) = l.any p
  | [], k => rfl
  | u :: r, k => by
    rw [idx1, List.any_cons]
    split
    · rename_i h
      rw [h]
      simp
    · rename_i h
      rw [idx1_any p r, Bool.eq_false_iff.2 h]
      rfl
def testR (x : Rf) (u : U) : Bool := decide (u.pos = x.pos) && decide (u.len = lenR x)
theorem turn1_AC' (l b : Nat) (x : Rf) (hn : x.size ≤ 1000000) : Test 119 l b (.box 53 ((encR x).map .pv)) (testR x) := by
  intro L S u hl hob
  refine fn_St (n := 16) (rs := [.tmp 3]) hands_val RdT.ok RdT.mixed Try.func119 rfl (by kernel_rfl) rfl rfl rfl (by omega) ?_
  intro hS
  show awp _ _ _ _ _ (St L 16 [(0, .a (uV u)), (1, .a (.s (.pb l b 0)))] S [])
  repeat' (first
      | (with_reducible refine want_none ?_)
      | (with_reducible refine c_seq ?_)
      | (with_reducible refine c_region ?_)
      | (with_reducible refine aops_nil ?_)
      | (with_reducible refine k_normal ?_)
      | (with_reducible refine c_ret ?_)
      | ((with_reducible apply want_run); exact rfl; exact rfl)
      | ((with_reducible apply want_skip); exact rfl; exact rfl; exact rfl)
      | ((with_reducible apply want_forkT); exact rfl; exact rfl; exact rfl; (first | exact Bp.not Bp.dec | exact Bp.dec | exact Bp.not Bp.bool | exact Bp.bool); all_goals intro hc)
      | ((with_reducible apply st_loadlow); exact rfl; exact hl; exact hob; exact rfl; exact rfl; exact rfl)
      | (with_reducible refine q_nil ?_)
      | ((with_reducible apply q_one); exact rfl; exact rfl)
      | ((with_reducible apply q_callS); exact rfl; exact rfl; exact rfl)
      | ((with_reducible refine c_regionQ ?_ ?_); (decide +kernel))
      | ((with_reducible apply q_callR); exact rfl; exact rfl; exact rfl; (with_reducible apply acq); exact rfl; exact rfl; exact rfl; exact lenR_AC x hn; exact rfl; (refine put_some rfl ?_))
      | ((with_reducible apply st_box); exact rfl; exact rfl; exact rfl; exact rfl)
      | ((with_reducible apply st_load); exact rfl; exact rfl; exact rfl; exact rfl; exact rfl)
      | ((with_reducible apply st_q RdT.ok); exact rfl; exact rfl))
  all_goals
    ((with_reducible apply r_one); exact rfl; exact .tmp rfl .nil; exact .s (.pv _); exact hS; refine ⟨rfl, _, rfl, ?_⟩)
    refine congrArg Rd.bool ?_
    unfold testR
    simp_all
theorem containsU_AC {f : FuncId} {l0 b0 : Nat} {ob : AObj} {p : U → Bool} (hp : Test f l0 b0 ob p) (o : Option (List U)) (L : Nat) (S : Store) (hl : l0 < L) (hob : S l0 b0 = some ob) :
    AC Try.prog L 118 [uA o, .s (.clo f [(l0, b0)])] S fun r S' => S' = S ∧ ∃ v, r = .val v ∧ v = Rd.bool ((o.getD []).any p) := by
  refine fn_St (n := 9) (rs := [.tmp 4]) hands_val RdT.ok RdT.mixed Try.func118 rfl (by kernel_rfl) rfl rfl rfl (by omega) ?_
  intro hS
  show awp _ _ _ _ _ (St L 9 [(0, .a (uA o)), (1, .a (.s (.clo f [(l0, b0)])))] S [])
  repeat' (first
      | (with_reducible refine want_none ?_)
      | (with_reducible refine c_seq ?_)
      | (with_reducible refine c_region ?_)
      | (with_reducible refine aops_nil ?_)
      | (with_reducible refine k_normal ?_)
      | (with_reducible refine c_ret ?_)
      | ((with_reducible apply st_callc); exact rfl; exact rfl; exact rfl; exact rfl; exact indexFunc_AC hp o (L + 1) _ (by omega) ((mkO_low _ _ _ hl).trans hob); (rintro v rfl))
      | ((with_reducible apply st_q RdT.ok); exact rfl; exact rfl))
  ((with_reducible apply r_one); exact rfl; exact .tmp rfl .nil; exact .s (.pv _); exact hS; refine ⟨rfl, _, rfl, ?_⟩)
  exact congrArg Rd.bool (idx1_any _ _ _)
def turnC (o : Option (List Tb)) (x : Rf) (by' : Int) : Option (List Tb) :=
  if mayC o = true ∧ mayR x = true ∧ x.chunk < (o.getD []).length then
    (match (o.getD [])[x.chunk.toNat]? with
    | some t => if (t.getD []).any (testR x) = true ∧ (turnO t x.pos by').isSome = true then some ((o.getD []).set x.chunk.toNat (turnO t x.pos by')) else none
    | none => none)
  else none
def turnCV : Option (List Tb) → TV
  | none => .tup [.s (.pv (.lit (.slice none 0 0))), .s (.pv (.lit (.bool false)))]
  | some c => .tup [cA (some c), .s (.pv (.lit (.bool true)))]
theorem turnCV_eq (t : Option (List Tb)) : turnCV t = .tup [cA t, .s (.pv (.lit (.bool t.isSome)))] := by
  rcases t with _ | l <;> rfl
theorem turnC_AC (f : FuncId) (by' : Int) (hf : ∀ (o : Tb) (at' : Int), ACv Try.prog f [uA o, .s (.pv (.lit (.int .i64 at')))] fun v => v = turnV (turnO o at' by')) (o : Option (List Tb)) (x : Rf) :
    ACv Try.prog 86 [cA o, rA x, .s (.clo f [])] fun v => v = turnCV (turnC o x by') := by
  intro L S hL
  refine fn_St (n := 54) (rs := [.tmp 6, .tmp 7]) hands_val RdT.ok RdT.mixed Try.func86 rfl (by kernel_rfl) rfl rfl rfl (by omega) ?_
  intro hS
  cases hmay : mayC o with
  | false =>
    show awp _ _ _ _ _ (St L 54 [(0, .a (cA o)), (1, .a (rA x)), (2, .a (.s (.clo f [])))] S [])
    repeat' (first
        | (with_reducible refine want_none ?_)
        | (with_reducible refine c_seq ?_)
        | (with_reducible refine c_region ?_)
        | (with_reducible refine aops_nil ?_)
        | (with_reducible refine k_normal ?_)
        | (with_reducible refine c_skip ?_)
        | (with_reducible refine c_ret ?_)
        | (with_reducible refine k_ret ?_)
        | ((with_reducible apply want_run); exact rfl; exact rfl)
        | ((with_reducible apply want_skip); exact rfl; exact rfl; exact rfl)
        | ((with_reducible apply st_callv); exact rfl; exact rfl; exact rfl; exact rfl; exact mayC_AC o; (rintro v rfl); rw [hmay])
        | ((with_reducible apply st_box); exact rfl; exact rfl; exact rfl; exact rfl)
        | ((with_reducible apply st_loadpel); exact rfl; exact rfl; omega; exact rfl; (intro u hu; refine ⟨_, rfl, ?_⟩; try simp only [Int.toNat_natCast] at hu))
        | ((with_reducible apply st_load); exact rfl; exact rfl; exact rfl; exact rfl; exact rfl)
        | ((with_reducible apply st_idx); exact rfl; exact rfl; exact rfl; exact rfl; exact rfl; omega)
        | ((with_reducible apply st_len RdT.ok); exact rfl; exact rfl; exact rfl; intro hlen)
        | ((with_reducible apply st_q RdT.ok); exact rfl; exact rfl)
        | ((with_reducible apply c_condT); exact rfl)
        | ((with_reducible apply c_cond); exact rfl; (first | exact Bp.not Bp.dec | exact Bp.dec | exact Bp.not Bp.bool | exact Bp.bool); all_goals intro hc))
    (with_reducible apply r_tup); exact rfl; exact .tmp rfl (.tmp rfl .nil); exact rfl; exact .cons (.s (.pv _)) (.cons (.s (.pv _)) .nil); exact hS; refine ⟨rfl, _, rfl, ?_⟩
    rw [turnC, if_neg (by rw [hmay]; simp)]; rfl
  | true =>
    cases hmr : mayR x with
    | false =>
      show awp _ _ _ _ _ (St L 54 [(0, .a (cA o)), (1, .a (rA x)), (2, .a (.s (.clo f [])))] S [])
      repeat' (first
          | (with_reducible refine want_none ?_)
          | (with_reducible refine c_seq ?_)
          | (with_reducible refine c_region ?_)
          | (with_reducible refine aops_nil ?_)
          | (with_reducible refine k_normal ?_)
          | (with_reducible refine c_skip ?_)
          | (with_reducible refine c_ret ?_)
          | (with_reducible refine k_ret ?_)
          | ((with_reducible apply want_run); exact rfl; exact rfl)
          | ((with_reducible apply want_skip); exact rfl; exact rfl; exact rfl)
          | ((with_reducible apply st_callv); exact rfl; exact rfl; exact rfl; exact rfl; exact mayC_AC o; (rintro v rfl); rw [hmay])
          | ((with_reducible apply st_callv); exact rfl; exact rfl; exact rfl; exact rfl; exact mayR_AC x; (rintro v rfl); rw [hmr])
          | ((with_reducible apply st_box); exact rfl; exact rfl; exact rfl; exact rfl)
          | ((with_reducible apply st_loadpel); exact rfl; exact rfl; omega; exact rfl; (intro u hu; refine ⟨_, rfl, ?_⟩; try simp only [Int.toNat_natCast] at hu))
          | ((with_reducible apply st_load); exact rfl; exact rfl; exact rfl; exact rfl; exact rfl)
          | ((with_reducible apply st_idx); exact rfl; exact rfl; exact rfl; exact rfl; exact rfl; omega)
          | ((with_reducible apply st_len RdT.ok); exact rfl; exact rfl; exact rfl; intro hlen)
          | ((with_reducible apply st_q RdT.ok); exact rfl; exact rfl)
          | ((with_reducible apply c_condT); exact rfl)
          | ((with_reducible apply c_cond); exact rfl; (first | exact Bp.not Bp.dec | exact Bp.dec | exact Bp.not Bp.bool | exact Bp.bool); all_goals intro hc))
      (with_reducible apply r_tup); exact rfl; exact .tmp rfl (.tmp rfl .nil); exact rfl; exact .cons (.s (.pv _)) (.cons (.s (.pv _)) .nil); exact hS; refine ⟨rfl, _, rfl, ?_⟩
      rw [turnC, if_neg (by rw [hmr]; simp)]; rfl
    | true =>
      obtain ⟨hl, hls⟩ := mayC_fits hmay
      have hln := mayC_len hmay
      have hch : 0 ≤ x.chunk ∧ x.size ≤ 256 := by
        unfold mayR at hmr
        simp only [Bool.and_eq_true, decide_eq_true_eq] at hmr
        omega
      cases o with
      | none => exact absurd hln.1 (by simp)
      | some l =>
        simp only [Option.getD_some] at hl hls hln
        have hC : ∀ (u : Tb) own, alook own 4 = some (.box 53 ((encR x).map .pv)) → AC Try.prog (L + 1) 118 [uA u, .s (.clo 119 [(L, 4)])] (mkO S L own) fun r S' => S' = mkO S L own ∧ ∃ v, r = .val v ∧ v = Rd.bool ((u.getD []).any (testR x)) := by
          intro u own ho
          exact containsU_AC (turn1_AC' L 4 x (by omega)) u (L + 1) _ (by omega) ((mkO_own S L own 4).trans ho)
        show awp _ _ _ _ _ (St L 54 [(0, row 1 (l.map encC)), (1, .a (rA x)), (2, .a (.s (.clo f [])))] S [])
        repeat' (first
            | (with_reducible refine want_none ?_)
            | (with_reducible refine c_seq ?_)
            | (with_reducible refine c_region ?_)
            | (with_reducible refine aops_nil ?_)
            | (with_reducible refine k_normal ?_)
            | (with_reducible refine c_skip ?_)
            | (with_reducible refine c_ret ?_)
            | (with_reducible refine k_ret ?_)
            | ((with_reducible apply want_run); exact rfl; exact rfl)
            | ((with_reducible apply want_skip); exact rfl; exact rfl; exact rfl)
            | ((with_reducible apply st_callv); exact rfl; exact rfl; exact rfl; exact rfl; exact mayC_AC (some l); (rintro v rfl); rw [hmay])
            | ((with_reducible apply st_callv); exact rfl; exact rfl; exact rfl; exact rfl; exact mayR_AC x; (rintro v rfl); rw [hmr])
            | ((with_reducible apply st_callc); exact rfl; exact rfl; exact rfl; exact rfl; exact hC u _ rfl; (rintro v rfl))
            | ((with_reducible apply st_callv); exact rfl; exact rfl; exact rfl; exact rfl; exact hf u x.pos; (rintro v rfl); rw [turnV_eq])
            | ((with_reducible apply st_callo); exact rfl; exact rfl; exact rfl; exact rfl; exact copied_row l hl hls; (rintro es rfl))
            | ((with_reducible apply st_idxown); exact rfl; exact rfl; exact rfl; exact rfl; exact rfl; exact rfl; (rw [List.length_map]; omega))
            | ((with_reducible apply st_storeprU); exact rfl; exact rfl; exact rfl; exact rfl; exact rfl; exact rfl; omega; (intro b hb; refine ⟨turnO u x.pos by', _, rfl, rfl, rfl, ?_⟩))
            | ((with_reducible apply st_box); exact rfl; exact rfl; exact rfl; exact rfl)
            | ((with_reducible apply st_loadpel); exact rfl; exact rfl; omega; exact rfl; (intro u hu; refine ⟨_, rfl, ?_⟩; try simp only [Int.toNat_natCast] at hu))
            | ((with_reducible apply st_load); exact rfl; exact rfl; exact rfl; exact rfl; exact rfl)
            | ((with_reducible apply st_idx); exact rfl; exact rfl; exact rfl; exact rfl; exact rfl; omega)
            | ((with_reducible apply st_len RdT.ok); exact rfl; exact rfl; exact rfl; intro hlen)
            | ((with_reducible apply st_q RdT.ok); exact rfl; exact rfl)
            | ((with_reducible apply c_condT); exact rfl)
            | ((with_reducible apply c_cond); exact rfl; (first | exact Bp.not Bp.dec | exact Bp.dec | exact Bp.not Bp.bool | exact Bp.bool); all_goals intro hc))
        · (with_reducible apply r_tup); exact rfl; exact .tmp rfl (.tmp rfl .nil); exact rfl; exact .cons (.s (.pv _)) (.cons (.s (.pv _)) .nil); exact hS; refine ⟨rfl, _, rfl, ?_⟩
          rw [turnC, if_neg (fun h => by have := h.2.2; simp only [Option.getD_some] at this; omega)]; rfl
        · (with_reducible apply r_tup); exact rfl; exact .tmp rfl (.tmp rfl .nil); exact rfl; exact .cons (.s (.pv _)) (.cons (.s (.pv _)) .nil); exact hS; refine ⟨rfl, _, rfl, ?_⟩
          rw [turnC, if_pos ⟨hmay, hmr, by simp only [Option.getD_some]; omega⟩, Option.getD_some, hu]
          show _ = turnCV (if _ then _ else _)
          rw [if_neg (fun h => hc h.1)]; rfl
        · (with_reducible apply r_tup); exact rfl; exact .tmp rfl (.tmp rfl .nil); exact rfl; exact .cons (.s (.pv _)) (.cons (.s (.pv _)) .nil); exact hS; refine ⟨rfl, _, rfl, ?_⟩
          rw [turnC, if_pos ⟨hmay, hmr, by simp only [Option.getD_some]; omega⟩, Option.getD_some, hu]
          show _ = turnCV (if _ then _ else _)
          rw [if_neg (fun h => hc h.2)]; rfl
        · (with_reducible apply r_tup); exact rfl; exact .tmp rfl (.tmp rfl .nil); exact rfl; exact .cons (.s (.sl rfl (by rw [List.length_map, List.length_map, List.length_set]))) (.cons (.s (.pv _)) .nil); exact hS; refine ⟨rfl, _, rfl, ?_⟩
          rw [turnC, if_pos ⟨hmay, hmr, by simp only [Option.getD_some]; omega⟩, Option.getD_some, hu]
          show _ = turnCV (if _ then _ else _)
          rw [if_pos ⟨Classical.not_not.1 (by assumption), Classical.not_not.1 hc⟩]; rfl
theorem incC_AC (o : Option (List Tb)) (x : Rf) : ACv Try.prog 49 [cA o, rA x] fun v => v = turnCV (turnC o x 1) := by
  intro L S hL
  refine fn_St (n := 11) (rs := [.tmp 4, .tmp 5]) hands_val RdT.ok RdT.mixed Try.func49 rfl (by kernel_rfl) rfl rfl rfl (by omega) ?_
  intro hS
  show awp _ _ _ _ _ (St L 11 [(0, .a (cA o)), (1, .a (rA x))] S [])
  repeat' (first
      | (with_reducible refine want_none ?_)
      | (with_reducible refine c_seq ?_)
      | (with_reducible refine c_region ?_)
      | (with_reducible refine aops_nil ?_)
      | (with_reducible refine k_normal ?_)
      | (with_reducible refine c_ret ?_)
      | ((with_reducible apply st_callv); exact rfl; exact rfl; exact rfl; exact rfl; exact turnC_AC 21 1 incO_AC o x; (rintro v rfl); rw [turnCV_eq])
      | ((with_reducible apply st_box); exact rfl; exact rfl; exact rfl; exact rfl)
      | ((with_reducible apply st_load); exact rfl; exact rfl; exact rfl; exact rfl; exact rfl)
      | ((with_reducible apply st_q RdT.ok); exact rfl; exact rfl))
  (with_reducible apply r_tup); exact rfl; exact .tmp rfl (.tmp rfl .nil); exact rfl; exact .cons (.s (.pv _)) (.cons (.s (.pv _)) .nil); exact hS
  exact ⟨rfl, _, rfl, rfl⟩
theorem decC_AC (o : Option (List Tb)) (x : Rf) : ACv Try.prog 44 [cA o, rA x] fun v => v = turnCV (turnC o x (-1)) := by
  intro L S hL
  refine fn_St (n := 11) (rs := [.tmp 4, .tmp 5]) hands_val RdT.ok RdT.mixed Try.func44 rfl (by kernel_rfl) rfl rfl rfl (by omega) ?_
  intro hS
  show awp _ _ _ _ _ (St L 11 [(0, .a (cA o)), (1, .a (rA x))] S [])
  repeat' (first
      | (with_reducible refine want_none ?_)
      | (with_reducible refine c_seq ?_)
      | (with_reducible refine c_region ?_)
      | (with_reducible refine aops_nil ?_)
      | (with_reducible refine k_normal ?_)
      | (with_reducible refine c_ret ?_)
      | ((with_reducible apply st_callv); exact rfl; exact rfl; exact rfl; exact rfl; exact turnC_AC 23 (-1) decO_AC o x; (rintro v rfl); rw [turnCV_eq])
      | ((with_reducible apply st_box); exact rfl; exact rfl; exact rfl; exact rfl)
      | ((with_reducible apply st_load); exact rfl; exact rfl; exact rfl; exact rfl; exact rfl)
      | ((with_reducible apply st_q RdT.ok); exact rfl; exact rfl))
  (with_reducible apply r_tup); exact rfl; exact .tmp rfl (.tmp rfl .nil); exact rfl; exact .cons (.s (.pv _)) (.cons (.s (.pv _)) .nil); exact hS
  exact ⟨rfl, _, rfl, rfl⟩
end Go.Proofs.Ytfdaioinghfjpaa
namespace Go.Proofs.Ytfdaioinghfjpaa
open Go.Rd Go.RowKit
set_option maxRecDepth 20000
set_option linter.unusedSimpArgs false
set_option linter.unusedVariables false
set_option maxHeartbeats 4000000
theorem allIdx {α : Type} {p : α → Bool} {l : List α} {k : Nat} (hk : l.length ≤ k) (h : ∀ (i : Nat) (x : α), i < k → l[i]? = some x → p x = true) : l.all p = true := by
  rw [List.all_eq_true]
  intro x hx
  obtain ⟨i, hi⟩ := List.mem_iff_getElem?.1 hx
  exact h i x (by have := (List.getElem?_eq_some_iff.1 hi).1; omega) hi
theorem stepIdx {α : Type} {p : α → Bool} {l : List α} {k : Nat} {u : α} (h : ∀ (i : Nat) (x : α), i < k → l[i]? = some x → p x = true) (hu : l[k]? = some u) (hp : p u = true) : ∀ (i : Nat) (x : α), i < k + 1 → l[i]? = some x → p x = true := by
  intro i x hi hx
  rcases Nat.lt_or_ge i k with h1 | h1
  · exact h i x h1 hx
  · have : i = k := by omega
    subst this
    rw [hu] at hx
    cases hx
    exact hp
theorem notAll {α : Type} {p : α → Bool} {l : List α} {k : Nat} {u : α} (hu : l[k]? = some u) (hp : p u = false) : l.all p = false := by
  rw [List.all_eq_false]
  exact ⟨u, List.mem_of_getElem? hu, by rw [hp]; decide⟩
def smallC (o : Option (List Tb)) : Bool := (o.getD []).all (fun t => decide ((t.getD []).length ≤ 40)) && decide ((o.getD []).length ≤ 40)
theorem smallC_AC (o : Option (List Tb)) : ACv Try.prog 40 [cA o] fun v => v = Rd.bool (smallC o) := by
  intro L S hL
  refine fn_St (n := 19) (rs := [.tmp 2]) hands_val RdT.ok RdT.mixed Try.func40 rfl (by kernel_rfl) rfl rfl rfl hL ?_
  intro hS
  cases o with
  | none =>
    show awp _ _ _ _ _ (St L 19 [(0, nilS)] S [])
    repeat' (first
        | (with_reducible refine want_none ?_)
        | (with_reducible refine c_seq ?_)
        | (with_reducible refine c_region ?_)
        | (with_reducible refine c_block ?_)
        | (with_reducible refine aops_nil ?_)
        | (with_reducible refine k_normal ?_)
        | (with_reducible refine c_skip ?_)
        | (with_reducible refine c_exit ?_)
        | (with_reducible refine c_ret ?_)
        | (with_reducible refine k_ret ?_)
        | (with_reducible refine k_exit ?_)
        | (with_reducible refine kl_exit ?_)
        | (with_reducible refine kr_ret ?_)
        | (with_reducible refine kr_exit ?_)
        | (with_reducible refine kb_normal ?_)
        | (with_reducible refine kb_ret ?_)
        | (with_reducible refine kb_hit ?_)
        | ((with_reducible apply st_loadpel); exact rfl; exact rfl; omega; exact rfl; (intro u hu; refine ⟨_, rfl, ?_⟩; try simp only [Int.toNat_natCast] at hu))
        | ((with_reducible apply st_idx); exact rfl; exact rfl; exact rfl; exact rfl; exact rfl; omega)
        | ((with_reducible apply st_len RdT.ok); exact rfl; exact rfl; exact rfl; intro hlen)
        | ((with_reducible apply st_lennil RdT.ok); exact rfl; exact rfl; exact rfl)
        | ((with_reducible apply st_add); exact rfl; exact rfl; exact rfl; omega)
        | ((with_reducible apply st_q RdT.ok); exact rfl; exact rfl)
        | ((with_reducible apply c_condF); exact rfl)
        | ((with_reducible apply c_cond); exact rfl; (first | exact Bp.not Bp.dec | exact Bp.dec | exact Bp.not Bp.bool | exact Bp.bool); all_goals intro hc))
    refine c_loop0 ?_
    repeat' (first
        | (with_reducible refine want_none ?_)
        | (with_reducible refine c_seq ?_)
        | (with_reducible refine c_region ?_)
        | (with_reducible refine c_block ?_)
        | (with_reducible refine aops_nil ?_)
        | (with_reducible refine k_normal ?_)
        | (with_reducible refine c_skip ?_)
        | (with_reducible refine c_exit ?_)
        | (with_reducible refine c_ret ?_)
        | (with_reducible refine k_ret ?_)
        | (with_reducible refine k_exit ?_)
        | (with_reducible refine kl_exit ?_)
        | (with_reducible refine kr_ret ?_)
        | (with_reducible refine kr_exit ?_)
        | (with_reducible refine kb_normal ?_)
        | (with_reducible refine kb_ret ?_)
        | (with_reducible refine kb_hit ?_)
        | ((with_reducible apply st_loadpel); exact rfl; exact rfl; omega; exact rfl; (intro u hu; refine ⟨_, rfl, ?_⟩; try simp only [Int.toNat_natCast] at hu))
        | ((with_reducible apply st_idx); exact rfl; exact rfl; exact rfl; exact rfl; exact rfl; omega)
        | ((with_reducible apply st_len RdT.ok); exact rfl; exact rfl; exact rfl; intro hlen)
        | ((with_reducible apply st_lennil RdT.ok); exact rfl; exact rfl; exact rfl)
        | ((with_reducible apply st_add); exact rfl; exact rfl; exact rfl; omega)
        | ((with_reducible apply st_q RdT.ok); exact rfl; exact rfl)
        | ((with_reducible apply c_condF); exact rfl)
        | ((with_reducible apply c_cond); exact rfl; (first | exact Bp.not Bp.dec | exact Bp.dec | exact Bp.not Bp.bool | exact Bp.bool); all_goals intro hc))
    ((with_reducible apply r_one); exact rfl; exact .tmp rfl .nil; exact .s (.pv _); exact hS; refine ⟨rfl, _, rfl, ?_⟩)
    rfl
  | some l =>
    show awp _ _ _ _ _ (St L 19 [(0, row 1 (l.map encC))] S [])
    repeat' (first
        | (with_reducible refine want_none ?_)
        | (with_reducible refine c_seq ?_)
        | (with_reducible refine c_region ?_)
        | (with_reducible refine c_block ?_)
        | (with_reducible refine aops_nil ?_)
        | (with_reducible refine k_normal ?_)
        | (with_reducible refine c_skip ?_)
        | (with_reducible refine c_exit ?_)
        | (with_reducible refine c_ret ?_)
        | (with_reducible refine k_ret ?_)
        | (with_reducible refine k_exit ?_)
        | (with_reducible refine kl_exit ?_)
        | (with_reducible refine kr_ret ?_)
        | (with_reducible refine kr_exit ?_)
        | (with_reducible refine kb_normal ?_)
        | (with_reducible refine kb_ret ?_)
        | (with_reducible refine kb_hit ?_)
        | ((with_reducible apply st_loadpel); exact rfl; exact rfl; omega; exact rfl; (intro u hu; refine ⟨_, rfl, ?_⟩; try simp only [Int.toNat_natCast] at hu))
        | ((with_reducible apply st_idx); exact rfl; exact rfl; exact rfl; exact rfl; exact rfl; omega)
        | ((with_reducible apply st_len RdT.ok); exact rfl; exact rfl; exact rfl; intro hlen)
        | ((with_reducible apply st_lennil RdT.ok); exact rfl; exact rfl; exact rfl)
        | ((with_reducible apply st_add); exact rfl; exact rfl; exact rfl; omega)
        | ((with_reducible apply st_q RdT.ok); exact rfl; exact rfl)
        | ((with_reducible apply c_condF); exact rfl)
        | ((with_reducible apply c_cond); exact rfl; (first | exact Bp.not Bp.dec | exact Bp.dec | exact Bp.not Bp.bool | exact Bp.bool); all_goals intro hc))
    refine c_loop (β := Nat) (fun k => k ≤ l.length ∧ ∀ (i : Nat) (x : Tb), i < k → l[i]? = some x → decide ((x.getD []).length ≤ 40) = true) (fun k => l.length - k) (fun k => [(0, row 1 (l.map encC)), (3, int k)]) (fun _ => []) 0 ⟨Nat.zero_le _, fun i x h => absurd h (by omega)⟩ ⟨rfl, rfl, trivial⟩ trivial rfl rfl ?_
    rintro k ⟨hk, hm⟩
    repeat' (first
        | (with_reducible refine want_none ?_)
        | (with_reducible refine c_seq ?_)
        | (with_reducible refine c_region ?_)
        | (with_reducible refine c_block ?_)
        | (with_reducible refine aops_nil ?_)
        | (with_reducible refine k_normal ?_)
        | (with_reducible refine c_skip ?_)
        | (with_reducible refine c_exit ?_)
        | (with_reducible refine c_ret ?_)
        | (with_reducible refine k_ret ?_)
        | (with_reducible refine k_exit ?_)
        | (with_reducible refine kl_exit ?_)
        | (with_reducible refine kr_ret ?_)
        | (with_reducible refine kr_exit ?_)
        | (with_reducible refine kb_normal ?_)
        | (with_reducible refine kb_ret ?_)
        | (with_reducible refine kb_hit ?_)
        | ((with_reducible apply st_loadpel); exact rfl; exact rfl; omega; exact rfl; (intro u hu; simp only [Int.toNat_natCast] at hu; rcases u with _ | u <;> refine ⟨_, rfl, ?_⟩))
        | ((with_reducible apply st_loadpel); exact rfl; exact rfl; omega; exact rfl; (intro u hu; refine ⟨_, rfl, ?_⟩; try simp only [Int.toNat_natCast] at hu))
        | ((with_reducible apply st_idx); exact rfl; exact rfl; exact rfl; exact rfl; exact rfl; omega)
        | ((with_reducible apply st_len RdT.ok); exact rfl; exact rfl; exact rfl; intro hlen)
        | ((with_reducible apply st_lennil RdT.ok); exact rfl; exact rfl; exact rfl)
        | ((with_reducible apply st_add); exact rfl; exact rfl; exact rfl; omega)
        | ((with_reducible apply st_q RdT.ok); exact rfl; exact rfl)
        | ((with_reducible apply c_condF); exact rfl)
        | ((with_reducible apply c_cond); exact rfl; (first | exact Bp.not Bp.dec | exact Bp.dec | exact Bp.not Bp.bool | exact Bp.bool); all_goals intro hc))
    all_goals first
      | (exfalso; omega)
      | ((with_reducible refine k_back (k + 1) ?_ ?_ ?_ ?_ ?_ ?_)
         · exact ⟨by omega, stepIdx hm hu (by simp; try omega)⟩
         · omega
         · exact ⟨rfl, rfl, trivial⟩
         · exact trivial
         · exact rfl
         · exact rfl)
      | (((with_reducible apply r_one); exact rfl; exact .tmp rfl .nil; exact .s (.pv _); exact hS; refine ⟨rfl, _, rfl, ?_⟩)
         refine congrArg Rd.bool ?_
         unfold smallC
         rw [show (some l).getD [] = l from rfl, notAll hu (decide_eq_false (by simp only [Option.getD_some]; omega)), Bool.false_and]; done)
      | (((with_reducible apply r_one); exact rfl; exact .tmp rfl .nil; exact .s (.pv _); exact hS; refine ⟨rfl, _, rfl, ?_⟩)
         refine congrArg Rd.bool ?_
         unfold smallC
         rw [show (some l).getD [] = l from rfl, allIdx (by omega) hm, Bool.true_and]
         exact decide_eq_decide.2 (by omega))
theorem refMayC_AC (o : Option (List Tb)) : ACv Try.prog 41 [cA o] fun v => v = Rd.bool (mayC o) := by
  intro L S hL
  refine fn_St (n := 24) (rs := [.tmp 2]) hands_val RdT.ok RdT.mixed Try.func41 rfl (by kernel_rfl) rfl rfl rfl hL ?_
  intro hS
  cases o with
  | none =>
    show awp _ _ _ _ _ (St L 24 [(0, nilS)] S [])
    repeat' (first
        | (with_reducible refine want_none ?_)
        | (with_reducible refine c_seq ?_)
        | (with_reducible refine c_region ?_)
        | (with_reducible refine c_block ?_)
        | (with_reducible refine aops_nil ?_)
        | (with_reducible refine k_normal ?_)
        | (with_reducible refine c_skip ?_)
        | (with_reducible refine c_exit ?_)
        | (with_reducible refine c_ret ?_)
        | (with_reducible refine k_ret ?_)
        | (with_reducible refine k_exit ?_)
        | (with_reducible refine kl_exit ?_)
        | (with_reducible refine kr_ret ?_)
        | (with_reducible refine kr_exit ?_)
        | (with_reducible refine kb_normal ?_)
        | (with_reducible refine kb_ret ?_)
        | (with_reducible refine kb_hit ?_)
        | ((with_reducible apply want_run); exact rfl; exact rfl)
        | ((with_reducible apply want_skip); exact rfl; exact rfl; exact rfl)
        | ((with_reducible apply want_forkT); exact rfl; exact rfl; exact rfl; (first | exact Bp.not Bp.dec | exact Bp.dec | exact Bp.not Bp.bool | exact Bp.bool); all_goals intro hc)
        | ((with_reducible apply st_loadpel); exact rfl; exact rfl; omega; exact rfl; (intro u hu; refine ⟨_, rfl, ?_⟩; try simp only [Int.toNat_natCast] at hu))
        | ((with_reducible apply st_idx); exact rfl; exact rfl; exact rfl; exact rfl; exact rfl; omega)
        | ((with_reducible apply st_len RdT.ok); exact rfl; exact rfl; exact rfl; intro hlen)
        | ((with_reducible apply st_lennil RdT.ok); exact rfl; exact rfl; exact rfl)
        | ((with_reducible apply st_add); exact rfl; exact rfl; exact rfl; omega)
        | ((with_reducible apply st_q RdT.ok); exact rfl; exact rfl)
        | ((with_reducible apply c_condF); exact rfl)
        | ((with_reducible apply c_cond); exact rfl; (first | exact Bp.not Bp.dec | exact Bp.dec | exact Bp.not Bp.bool | exact Bp.bool); all_goals intro hc))
    refine c_loop0 ?_
    repeat' (first
        | (with_reducible refine want_none ?_)
        | (with_reducible refine c_seq ?_)
        | (with_reducible refine c_region ?_)
        | (with_reducible refine c_block ?_)
        | (with_reducible refine aops_nil ?_)
        | (with_reducible refine k_normal ?_)
        | (with_reducible refine c_skip ?_)
        | (with_reducible refine c_exit ?_)
        | (with_reducible refine c_ret ?_)
        | (with_reducible refine k_ret ?_)
        | (with_reducible refine k_exit ?_)
        | (with_reducible refine kl_exit ?_)
        | (with_reducible refine kr_ret ?_)
        | (with_reducible refine kr_exit ?_)
        | (with_reducible refine kb_normal ?_)
        | (with_reducible refine kb_ret ?_)
        | (with_reducible refine kb_hit ?_)
        | ((with_reducible apply want_run); exact rfl; exact rfl)
        | ((with_reducible apply want_skip); exact rfl; exact rfl; exact rfl)
        | ((with_reducible apply want_forkT); exact rfl; exact rfl; exact rfl; (first | exact Bp.not Bp.dec | exact Bp.dec | exact Bp.not Bp.bool | exact Bp.bool); all_goals intro hc)
        | ((with_reducible apply st_loadpel); exact rfl; exact rfl; omega; exact rfl; (intro u hu; refine ⟨_, rfl, ?_⟩; try simp only [Int.toNat_natCast] at hu))
        | ((with_reducible apply st_idx); exact rfl; exact rfl; exact rfl; exact rfl; exact rfl; omega)
        | ((with_reducible apply st_len RdT.ok); exact rfl; exact rfl; exact rfl; intro hlen)
        | ((with_reducible apply st_lennil RdT.ok); exact rfl; exact rfl; exact rfl)
        | ((with_reducible apply st_add); exact rfl; exact rfl; exact rfl; omega)
        | ((with_reducible apply st_q RdT.ok); exact rfl; exact rfl)
        | ((with_reducible apply c_condF); exact rfl)
        | ((with_reducible apply c_cond); exact rfl; (first | exact Bp.not Bp.dec | exact Bp.dec | exact Bp.not Bp.bool | exact Bp.bool); all_goals intro hc))
    all_goals
      ((with_reducible apply r_one); exact rfl; exact .tmp rfl .nil; exact .s (.pv _); exact hS; refine ⟨rfl, _, rfl, ?_⟩)
      rfl
  | some l =>
    show awp _ _ _ _ _ (St L 24 [(0, row 1 (l.map encC))] S [])
    repeat' (first
        | (with_reducible refine want_none ?_)
        | (with_reducible refine c_seq ?_)
        | (with_reducible refine c_region ?_)
        | (with_reducible refine c_block ?_)
        | (with_reducible refine aops_nil ?_)
        | (with_reducible refine k_normal ?_)
        | (with_reducible refine c_skip ?_)
        | (with_reducible refine c_exit ?_)
        | (with_reducible refine c_ret ?_)
        | (with_reducible refine k_ret ?_)
        | (with_reducible refine k_exit ?_)
        | (with_reducible refine kl_exit ?_)
        | (with_reducible refine kr_ret ?_)
        | (with_reducible refine kr_exit ?_)
        | (with_reducible refine kb_normal ?_)
        | (with_reducible refine kb_ret ?_)
        | (with_reducible refine kb_hit ?_)
        | ((with_reducible apply want_run); exact rfl; exact rfl)
        | ((with_reducible apply want_skip); exact rfl; exact rfl; exact rfl)
        | ((with_reducible apply want_forkT); exact rfl; exact rfl; exact rfl; (first | exact Bp.not Bp.dec | exact Bp.dec | exact Bp.not Bp.bool | exact Bp.bool); all_goals intro hc)
        | ((with_reducible apply st_loadpel); exact rfl; exact rfl; omega; exact rfl; (intro u hu; refine ⟨_, rfl, ?_⟩; try simp only [Int.toNat_natCast] at hu))
        | ((with_reducible apply st_idx); exact rfl; exact rfl; exact rfl; exact rfl; exact rfl; omega)
        | ((with_reducible apply st_len RdT.ok); exact rfl; exact rfl; exact rfl; intro hlen)
        | ((with_reducible apply st_lennil RdT.ok); exact rfl; exact rfl; exact rfl)
        | ((with_reducible apply st_add); exact rfl; exact rfl; exact rfl; omega)
        | ((with_reducible apply st_q RdT.ok); exact rfl; exact rfl)
        | ((with_reducible apply c_condF); exact rfl)
        | ((with_reducible apply c_cond); exact rfl; (first | exact Bp.not Bp.dec | exact Bp.dec | exact Bp.not Bp.bool | exact Bp.bool); all_goals intro hc))
    refine c_loop (β := Nat) (fun k => k ≤ l.length ∧ ∀ (i : Nat) (x : Tb), i < k → l[i]? = some x → may x = true) (fun k => l.length - k) (fun k => [(0, row 1 (l.map encC)), (3, int k)]) (fun _ => []) 0 ⟨Nat.zero_le _, fun i x h => absurd h (by omega)⟩ ⟨rfl, rfl, trivial⟩ trivial rfl rfl ?_
    rintro k ⟨hk, hm⟩
    repeat' (first
        | (with_reducible refine want_none ?_)
        | (with_reducible refine c_seq ?_)
        | (with_reducible refine c_region ?_)
        | (with_reducible refine c_block ?_)
        | (with_reducible refine aops_nil ?_)
        | (with_reducible refine k_normal ?_)
        | (with_reducible refine c_skip ?_)
        | (with_reducible refine c_exit ?_)
        | (with_reducible refine c_ret ?_)
        | (with_reducible refine k_ret ?_)
        | (with_reducible refine k_exit ?_)
        | (with_reducible refine kl_exit ?_)
        | (with_reducible refine kr_ret ?_)
        | (with_reducible refine kr_exit ?_)
        | (with_reducible refine kb_normal ?_)
        | (with_reducible refine kb_ret ?_)
        | (with_reducible refine kb_hit ?_)
        | ((with_reducible apply want_run); exact rfl; exact rfl)
        | ((with_reducible apply want_skip); exact rfl; exact rfl; exact rfl)
        | ((with_reducible apply want_forkT); exact rfl; exact rfl; exact rfl; (first | exact Bp.not Bp.dec | exact Bp.dec | exact Bp.not Bp.bool | exact Bp.bool); all_goals intro hc)
        | ((with_reducible apply st_callv); exact rfl; exact rfl; exact rfl; exact rfl; exact refMay_AC u; (rintro v rfl))
        | ((with_reducible apply st_loadpel); exact rfl; exact rfl; omega; exact rfl; (intro u hu; refine ⟨_, rfl, ?_⟩; try simp only [Int.toNat_natCast] at hu))
        | ((with_reducible apply st_idx); exact rfl; exact rfl; exact rfl; exact rfl; exact rfl; omega)
        | ((with_reducible apply st_len RdT.ok); exact rfl; exact rfl; exact rfl; intro hlen)
        | ((with_reducible apply st_lennil RdT.ok); exact rfl; exact rfl; exact rfl)
        | ((with_reducible apply st_add); exact rfl; exact rfl; exact rfl; omega)
        | ((with_reducible apply st_q RdT.ok); exact rfl; exact rfl)
        | ((with_reducible apply c_condF); exact rfl)
        | ((with_reducible apply c_cond); exact rfl; (first | exact Bp.not Bp.dec | exact Bp.dec | exact Bp.not Bp.bool | exact Bp.bool); all_goals intro hc))
    all_goals first
      | (exfalso; omega)
      | ((with_reducible refine k_back (k + 1) ?_ ?_ ?_ ?_ ?_ ?_)
         · exact ⟨by omega, stepIdx hm hu (by simpa using hc)⟩
         · omega
         · exact ⟨rfl, rfl, trivial⟩
         · exact trivial
         · exact rfl
         · exact rfl)
      | (((with_reducible apply r_one); exact rfl; exact .tmp rfl .nil; exact .s (.pv _); exact hS; refine ⟨rfl, _, rfl, ?_⟩)
         refine congrArg Rd.bool ?_
         unfold mayC
         rw [show (some l).getD [] = l from rfl, notAll hu (by simpa using hc), Bool.and_false]; done)
      | (((with_reducible apply r_one); exact rfl; exact .tmp rfl .nil; exact .s (.pv _); exact hS; refine ⟨rfl, _, rfl, ?_⟩)
         refine congrArg Rd.bool ?_
         unfold mayC
         rw [show (some l).getD [] = l from rfl, allIdx (by omega) hm, Bool.and_true]
         first
           | exact decide_eq_decide.2 (by omega)
           | exact (decide_eq_false (by omega)).symm)
def sameC (a b : Option (List Tb)) : Bool := decide (((a.getD []).map (·.getD [])) = ((b.getD []).map (·.getD [])))
end Go.Proofs.Ytfdaioinghfjpaa
namespace Go.Proofs.Ytfdaioinghfjpaa
open Go.Rd Go.RowKit
def covers (i : Nat) (u : U) : Bool := decide (u.pos ≤ i ∧ (i : Int) < u.pos + u.len)
theorem mark_get (bs : List Bool) (p i : Nat) : ∀ n, (mark bs p n)[i]? = (bs[i]?).map (· || decide (p ≤ i ∧ i < p + n))
  | 0 => by
    have : decide (p ≤ i ∧ i < p + 0) = false := decide_eq_false (by omega)
    rw [this, mark]; cases bs[i]? <;> simp
  | n + 1 => by
    rw [mark, List.getElem?_set, mark_length, mark_get bs p i n]
    by_cases h : p + n = i
    · rw [if_pos h]
      subst h
      split
      · rename_i hl
        rw [List.getElem?_eq_getElem hl]
        simp
      · rw [List.getElem?_eq_none (by omega)]; rfl
    · rw [if_neg h]
      have : decide (p ≤ i ∧ i < p + (n + 1)) = decide (p ≤ i ∧ i < p + n) := by
        apply decide_eq_decide.2
        omega
      rw [this]
theorem used1_get (i : Nat) : ∀ (l : List U) (bs : List Bool) (e : Int), 0 ≤ e → may1 e l = true → (used1 bs l)[i]? = (bs[i]?).map (· || l.any (covers i))
  | [], bs, e, _, _ => by rw [used1]; cases bs[i]? <;> simp
  | u :: r, bs, e, he, h => by
    obtain ⟨h1, h2, h3, h4, h5, h6, h7, h8⟩ := may1_cons h
    rw [used1, used1_get i r _ _ (by omega) h8, mark_get, Option.map_map]
    have : decide (u.pos.toNat ≤ i ∧ i < u.pos.toNat + u.len.toNat) = covers i u := by
      unfold covers
      apply decide_eq_decide.2
      omega
    rw [this]
    congr 1
    funext b
    simp [Bool.or_assoc]
theorem orNil_getD {α : Type} (l : List α) : (orNil l).getD [] = l := by cases l <;> rfl
theorem commit_getD {o : Option (List U)} (h : may o = true) : (commit o).getD [] = commit1 (o.getD []) := by rw [commit, if_pos h, orNil_getD]
theorem used_some {o : Option (List U)} (h : may o = true) : used o = some (used1 none16 (o.getD [])) := if_pos h
theorem may1_ge : ∀ (l : List U) (e : Int), may1 e l = true → ∀ u ∈ l, e ≤ u.pos
  | [], _, _, u, hu => by cases hu
  | v :: r, e, h, u, hu => by
    obtain ⟨h1, h2, h3, h4, h5, h6, h7, h8⟩ := may1_cons h
    rcases List.mem_cons.1 hu with rfl | hu
    · exact h3
    · have := may1_ge r _ h8 u hu
      omega
end Go.Proofs.Ytfdaioinghfjpaa
namespace Go.Proofs.Ytfdaioinghfjpaa
open Go.Rd Go.RowKit
def FFrom (bs : List Bool) (n : Int) (s : Nat) (v : Int) : Prop :=
  (v = -1 ∧ ∀ a : Nat, s ≤ a → fits bs a n = false) ∨ ∃ a : Nat, s ≤ a ∧ v = a ∧ fits bs a n = true ∧ ∀ b : Nat, s ≤ b → b < a → fits bs b n = false
theorem fits_false (bs : List Bool) (a : Nat) (n : Int) (h : n < 1 ∨ (bs.length : Int) < a + n ∨ ∃ i : Nat, i < n.toNat ∧ bs[a + i]? ≠ some false) : fits bs a n = false := by
  rw [Bool.eq_false_iff]
  intro hf
  obtain ⟨h1, h2, h3, h4⟩ := (fits_iff bs a n).1 hf
  rcases h with h | h | ⟨i, hi, h⟩
  · omega
  · omega
  · exact h (by simpa using h4 i hi)
theorem firstOf_from (B : List Bool) (n : Int) : ∀ (bs : List Bool) (k m : Nat), bs = B.drop k → k ≤ B.length → m ≤ k → (∀ i : Nat, k - m ≤ i → i < k → B[i]? = some false) → FFrom B n (k - m) (firstOf n (runs1 k m bs))
  | [], k, m, hb, hk, hm, hf => by
    have hkl : k = B.length := by
      have := congrArg List.length hb
      rw [List.length_drop] at this
      simp at this
      omega
    unfold runs1
    have hno : n < 1 ∨ (m : Int) < n → ∀ a : Nat, k - m ≤ a → fits B a n = false := by
      intro h a ha
      apply fits_false
      omega
    split
    · unfold firstOf
      split
      · rename_i h1
        right
        refine ⟨k - m, Nat.le_refl _, by dsimp only; omega, ?_, fun b _ _ => by omega⟩
        rw [fits_iff]
        refine ⟨h1.1, by omega, by dsimp only at h1; omega, fun i hi => ?_⟩
        rw [Int.toNat_natCast]
        exact hf _ (by omega) (by dsimp only at h1; omega)
      · rename_i h1
        left
        exact ⟨rfl, hno (by dsimp only at h1; omega)⟩
    · left
      exact ⟨rfl, hno (by omega)⟩
  | b :: r, k, m, hb, hk, hm, hf => by
    have hlt : k < B.length := by
      have := congrArg List.length hb
      rw [List.length_drop] at this
      simp at this
      omega
    have hbk : B[k]? = some b := by
      have := congrArg (fun l => l[0]?) hb
      simpa using this.symm
    have hr : r = B.drop (k + 1) := by
      have := congrArg List.tail hb
      simpa using this
    unfold runs1
    split
    · rename_i hb0
      subst hb0
      have := firstOf_from B n r (k + 1) (m + 1) hr (by omega) (by omega) fun i h1 h2 => by
        by_cases h : i = k
        · subst h; exact hbk
        · exact hf i (by omega) (by omega)
      rwa [show k + 1 - (m + 1) = k - m by omega] at this
    · rename_i hb0
      have hb1 : b = true := by simpa using hb0
      subst hb1
      have ih := firstOf_from B n r (k + 1) 0 hr (by omega) (by omega) fun i h1 h2 => by omega
      have hno : n < 1 ∨ (m : Int) < n → ∀ a : Nat, k - m ≤ a → a < k + 1 → fits B a n = false := by
        intro h a ha ha2
        by_cases h1 : n < 1
        · exact fits_false _ _ _ (.inl h1)
        · refine fits_false _ _ _ (.inr (.inr ⟨k - a, by omega, ?_⟩))
          rw [show a + (k - a) = k by omega, hbk]
          simp
      have hup : n < 1 ∨ (m : Int) < n → FFrom B n (k - m) (firstOf n (runs1 (k + 1) 0 r)) := by
        intro h
        rcases ih with ⟨e, h1⟩ | ⟨a, h1, h2, h3, h4⟩
        · left
          refine ⟨e, fun a ha => ?_⟩
          by_cases h2 : a < k + 1
          · exact hno h a ha h2
          · exact h1 a (by omega)
        · right
          refine ⟨a, by omega, h2, h3, fun b hb1 hb2 => ?_⟩
          by_cases h5 : b < k + 1
          · exact hno h b hb1 h5
          · exact h4 b (by omega) hb2
      split
      · unfold firstOf
        split
        · rename_i h1
          right
          refine ⟨k - m, Nat.le_refl _, by dsimp only; omega, ?_, fun b _ _ => by omega⟩
          rw [fits_iff]
          refine ⟨h1.1, by omega, by dsimp only at h1; omega, fun i hi => ?_⟩
          rw [Int.toNat_natCast]
          exact hf _ (by omega) (by dsimp only at h1; omega)
        · rename_i h1
          exact hup (by dsimp only at h1; omega)
      · exact hup (by omega)
theorem firstOf_FF (B : List Bool) (n : Int) : FFrom B n 0 (firstOf n (runs1 0 0 B)) := firstOf_from B n B 0 0 rfl (Nat.zero_le _) (Nat.le_refl _) fun i h1 h2 => by omega
theorem FF_unique {B : List Bool} {n : Int} {s : Nat} {v w : Int} (hv : FFrom B n s v) (hw : FFrom B n s w) : v = w := by
  rcases hv with ⟨h1, h2⟩ | ⟨a, h1, h2, h3, h4⟩ <;> rcases hw with ⟨g1, g2⟩ | ⟨b, g1, g2, g3, g4⟩
  · rw [h1, g1]
  · rw [h2 b g1] at g3; cases g3
  · rw [g2 a h1] at h3; cases h3
  · have : a = b := by
      rcases Nat.lt_trichotomy a b with h | h | h
      · rw [g4 a h1 h] at h3; cases h3
      · exact h
      · rw [h4 b g1 h] at g3; cases g3
    rw [h2, g2, this]
theorem first_fits {B : List Bool} {n : Int} (h : 0 ≤ firstOf n (runs1 0 0 B)) : fits B (firstOf n (runs1 0 0 B)) n = true := by
  rcases firstOf_FF B n with ⟨h1, _⟩ | ⟨a, _, h2, h3, _⟩
  · omega
  · rw [h2]; exact h3
theorem longF_ge : ∀ (xs : List (Int × Int)) (m : Int), m ≤ longF m xs ∧ ∀ p ∈ xs, p.2 ≤ longF m xs
  | [], m => ⟨Int.le_refl _, by simp⟩
  | p :: r, m => by
    rw [longF]
    obtain ⟨h1, h2⟩ := longF_ge r (if p.2 > m then p.2 else m)
    have h3 : m ≤ (if p.2 > m then p.2 else m) ∧ p.2 ≤ (if p.2 > m then p.2 else m) := by split <;> omega
    refine ⟨by omega, fun q hq => ?_⟩
    rcases List.mem_cons.1 hq with rfl | hq
    · omega
    · exact h2 q hq
theorem longF_of : ∀ (xs : List (Int × Int)) (m : Int), longF m xs = m ∨ ∃ p ∈ xs, longF m xs = p.2
  | [], m => .inl rfl
  | p :: r, m => by
    rw [longF]
    rcases longF_of r (if p.2 > m then p.2 else m) with h | ⟨q, hq, h⟩
    · rw [h]
      split
      · exact .inr ⟨p, by simp, rfl⟩
      · exact .inl rfl
    · exact .inr ⟨q, List.mem_cons_of_mem _ hq, h⟩
theorem firstOf_ge : ∀ (xs : List (Int × Int)) (n : Int), (∀ p ∈ xs, 0 ≤ p.1) → (0 ≤ firstOf n xs ↔ 1 ≤ n ∧ ∃ p ∈ xs, n ≤ p.2)
  | [], n, _ => by simp [firstOf]
  | p :: r, n, h => by
    rw [firstOf]
    split
    · rename_i h1
      exact ⟨fun _ => ⟨h1.1, p, by simp, h1.2⟩, fun _ => h p (by simp)⟩
    · rename_i h1
      rw [firstOf_ge r n fun q hq => h q (by simp [hq])]
      constructor
      · rintro ⟨h2, q, hq, h3⟩
        exact ⟨h2, q, by simp [hq], h3⟩
      · rintro ⟨h2, q, hq, h3⟩
        rcases List.mem_cons.1 hq with rfl | hq
        · exact absurd ⟨h2, h3⟩ h1
        · exact ⟨h2, q, hq, h3⟩
theorem runs_at : ∀ (bs : List Bool) (k m : Nat) (p : Int × Int), m ≤ k → p ∈ runs1 k m bs → 0 ≤ p.1
  | [], k, m, p, hm, h => by
    unfold runs1 at h
    split at h
    · simp at h; subst h; dsimp only; omega
    · cases h
  | b :: r, k, m, p, hm, h => by
    unfold runs1 at h
    split at h
    · exact runs_at r _ _ p (by omega) h
    · split at h
      · rcases List.mem_cons.1 h with rfl | h
        · dsimp only; omega
        · exact runs_at r _ _ p (by omega) h
      · exact runs_at r _ _ p (by omega) h
theorem first_long (bs : List Bool) (n : Int) : 0 ≤ firstOf n (runs1 0 0 bs) ↔ 1 ≤ n ∧ n ≤ longF 0 (runs1 0 0 bs) := by
  rw [firstOf_ge _ _ fun p hp => runs_at bs 0 0 p (Nat.le_refl _) hp]
  constructor
  · rintro ⟨h1, p, hp, h2⟩
    have := (longF_ge (runs1 0 0 bs) 0).2 p hp
    exact ⟨h1, by omega⟩
  · rintro ⟨h1, h2⟩
    refine ⟨h1, ?_⟩
    rcases longF_of (runs1 0 0 bs) 0 with h | ⟨p, hp, h⟩
    · omega
    · exact ⟨p, hp, by omega⟩
theorem long_nonneg (bs : List Bool) : 0 ≤ longF 0 (runs1 0 0 bs) := (longF_ge _ _).1
def ins1 (a n : Int) : List U → List U
  | [] => [takeU a n]
  | u :: r => if a < u.pos then takeU a n :: u :: r else u :: ins1 a n r
theorem insOf_ins1 (a n : Int) : ∀ l : List U, insOf l (posOf a l) (takeU a n) = ins1 a n l
  | [] => rfl
  | u :: r => by
    have := insOf_ins1 a n r
    unfold insOf at this
    unfold insOf posOf ins1
    split
    · rfl
    · rw [List.take_succ_cons, List.drop_succ_cons, List.cons_append, this]
theorem countOf_range : ∀ (l : List U) (e at' : Int), may1 e l = true → 0 ≤ countOf at' l ∧ countOf at' l ≤ 1000000
  | [], e, at', _ => by simp [countOf]
  | u :: r, e, at', h => by
    obtain ⟨g1, g2, g3, g4, g5, g6, g7, g8⟩ := may1_cons h
    rw [countOf]
    split
    · omega
    · exact countOf_range r _ at' g8
theorem count_range {o : Option (List U)} {at' : Int} (h : may o = true) : 0 ≤ count o at' ∧ count o at' ≤ 1000000 := countOf_range _ 0 at' h
end Go.Proofs.Ytfdaioinghfjpaa
namespace Go.Proofs.Ytfdaioinghfjpaa
open Go.Rd Go.RowKit
end Go.Proofs.Ytfdaioinghfjpaa
namespace Go.Proofs.Ytfdaioinghfjpaa
open Go.Rd Go.RowKit
set_option maxRecDepth 20000
set_option linter.unusedSimpArgs false
set_option linter.unusedVariables false
set_option maxHeartbeats 4000000
def encD (t : Option (List Bool)) : List PV := [slP 1 encB t]
abbrev dbA : Option (List (Option (List Bool))) → AV := slA 1 encD
theorem eachU_AC (f : FuncId) (h : Tb → Tb) (hf : ∀ t, ACv Try.prog f [uA t] fun v => v = .a (uA (h t))) (l : List Tb) (hl : l.length ≤ 1000) :
    ACv Try.prog 95 [cA (some l), .s (.clo f [])] fun v => v = .a (cA (orNil (l.map h))) := by
  intro L S hL
  refine fn_St (n := 22) (rs := [.tmp 4]) hands_val RdT.ok RdT.mixed Try.func95 rfl (by kernel_rfl) rfl rfl rfl hL ?_
  intro hS
  show awp _ _ _ _ _ (St L 22 [(0, row 1 (l.map encC)), (1, .a (.s (.clo f [])))] S [])
  repeat' (first
      | (with_reducible refine want_none ?_)
      | (with_reducible refine c_seq ?_)
      | (with_reducible refine c_region ?_)
      | (with_reducible refine c_block ?_)
      | (with_reducible refine aops_nil ?_)
      | (with_reducible refine k_normal ?_)
      | (with_reducible refine c_skip ?_)
      | (with_reducible refine c_exit ?_)
      | (with_reducible refine c_ret ?_)
      | (with_reducible refine k_exit ?_)
      | (with_reducible refine kr_exit ?_)
      | (with_reducible refine kb_normal ?_)
      | (with_reducible refine kb_hit ?_)
      | ((with_reducible apply st_loadpel); exact rfl; exact rfl; omega; exact rfl; (intro u hu; refine ⟨_, rfl, ?_⟩; try simp only [Int.toNat_natCast] at hu))
      | ((with_reducible apply st_idx); exact rfl; exact rfl; exact rfl; exact rfl; exact rfl; omega)
      | ((with_reducible apply st_len RdT.ok); exact rfl; exact rfl; exact rfl; intro hlen)
      | ((with_reducible apply st_add); exact rfl; exact rfl; exact rfl; omega)
      | ((with_reducible apply st_q RdT.ok); exact rfl; exact rfl)
      | ((with_reducible apply c_cond); exact rfl; (first | exact Bp.not Bp.dec | exact Bp.dec | exact Bp.not Bp.bool | exact Bp.bool); all_goals intro hc))
  refine c_loop (β := Nat × List Tb) (fun b => b.1 ≤ l.length ∧ b.2.length = b.1 ∧ l.map h = b.2 ++ (l.drop b.1).map h) (fun b => l.length - b.1)
    (fun b => [(1, .a (.s (.clo f []))), (5, match b.2 with | [] => nilS | out => .a (.s (.sl L 19 0 out.length))), (8, row 1 (l.map encC)), (9, int l.length), (10, int b.1)])
    (fun b => match b.2 with | [] => [] | out => [(19, .row 22 1 (out.map encC))]) (0, []) ⟨Nat.zero_le _, rfl, rfl⟩ ⟨rfl, rfl, rfl, rfl, rfl, trivial⟩ trivial rfl rfl ?_
  rintro ⟨k, out⟩ ⟨hk, ho, hm⟩
  dsimp only at hk ho hm ⊢
  cases out with
  | nil =>
    dsimp only
    repeat' (first
        | (with_reducible refine want_none ?_)
        | (with_reducible refine c_seq ?_)
        | (with_reducible refine c_region ?_)
        | (with_reducible refine c_block ?_)
        | (with_reducible refine aops_nil ?_)
        | (with_reducible refine k_normal ?_)
        | (with_reducible refine c_skip ?_)
        | (with_reducible refine c_exit ?_)
        | (with_reducible refine c_ret ?_)
        | (with_reducible refine k_exit ?_)
        | (with_reducible refine kr_exit ?_)
        | (with_reducible refine kb_normal ?_)
        | (with_reducible refine kb_hit ?_)
        | ((with_reducible apply st_callv); exact rfl; exact rfl; exact rfl; exact rfl; exact hf u; (rintro v rfl))
        | ((with_reducible apply st_buildslice); exact rfl; exact rfl; exact rfl; exact rfl; exact rfl; exact rfl; exact rfl; exact rfl)
        | ((with_reducible apply st_append0); exact rfl; exact rfl; exact rfl; exact rfl; exact .own rfl rfl rfl; exact ⟨by show 1 * 24 ≤ 140737488355328; decide, by show 1 ≤ 9223372036854775807; decide⟩; exact rfl)
        | ((with_reducible apply st_loadpel); exact rfl; exact rfl; omega; exact rfl; (intro u hu; refine ⟨_, rfl, ?_⟩; try simp only [Int.toNat_natCast] at hu))
        | ((with_reducible apply st_idx); exact rfl; exact rfl; exact rfl; exact rfl; exact rfl; omega)
        | ((with_reducible apply st_len RdT.ok); exact rfl; exact rfl; exact rfl; intro hlen)
        | ((with_reducible apply st_add); exact rfl; exact rfl; exact rfl; omega)
        | ((with_reducible apply st_q RdT.ok); exact rfl; exact rfl)
        | ((with_reducible apply c_cond); exact rfl; (first | exact Bp.not Bp.dec | exact Bp.dec | exact Bp.not Bp.bool | exact Bp.bool); all_goals intro hc))
    · (with_reducible refine k_back (k + 1, [] ++ [h u]) ?_ ?_ ?_ ?_ ?_ ?_)
      · refine ⟨by dsimp only; omega, by simp at *; omega, ?_⟩
        rw [hm, drop_consG hu, List.map_cons]
        simp
      · dsimp only; omega
      · exact ⟨rfl, rfl, rfl, rfl, rfl, trivial⟩
      · exact ⟨rfl, trivial⟩
      · exact rfl
      · exact rfl
    · (with_reducible apply r_one); exact rfl; exact .tmp rfl .nil; exact .s (.pv _); exact hS; refine ⟨rfl, _, rfl, ?_⟩
      rw [hm, List.drop_of_length_le (by omega)]
      rfl
  | cons x out =>
    dsimp only
    repeat' (first
        | (with_reducible refine want_none ?_)
        | (with_reducible refine c_seq ?_)
        | (with_reducible refine c_region ?_)
        | (with_reducible refine c_block ?_)
        | (with_reducible refine aops_nil ?_)
        | (with_reducible refine k_normal ?_)
        | (with_reducible refine c_skip ?_)
        | (with_reducible refine c_exit ?_)
        | (with_reducible refine c_ret ?_)
        | (with_reducible refine k_exit ?_)
        | (with_reducible refine kr_exit ?_)
        | (with_reducible refine kb_normal ?_)
        | (with_reducible refine kb_hit ?_)
        | ((with_reducible apply st_callv); exact rfl; exact rfl; exact rfl; exact rfl; exact hf u; (rintro v rfl))
        | ((with_reducible apply st_buildslice); exact rfl; exact rfl; exact rfl; exact rfl; exact rfl; exact rfl; exact rfl; exact rfl)
        | ((with_reducible apply st_append1); exact rfl; exact rfl; exact rfl; exact rfl; exact (List.length_map _).symm; exact .own rfl rfl rfl; exact (List.map_append (l₂ := [h u])).symm; (rw [List.length_map, List.length_append]; refine ⟨?_, ?_⟩; (show _ * 24 ≤ _; simp at *; omega); (simp [maxLen] at *; omega)); exact rfl; exact rfl; exact rfl; exact rfl; exact rfl; exact rfl; exact rfl)
        | ((with_reducible apply st_loadpel); exact rfl; exact rfl; omega; exact rfl; (intro u hu; refine ⟨_, rfl, ?_⟩; try simp only [Int.toNat_natCast] at hu))
        | ((with_reducible apply st_idx); exact rfl; exact rfl; exact rfl; exact rfl; exact rfl; omega)
        | ((with_reducible apply st_len RdT.ok); exact rfl; exact rfl; exact rfl; intro hlen)
        | ((with_reducible apply st_add); exact rfl; exact rfl; exact rfl; omega)
        | ((with_reducible apply st_q RdT.ok); exact rfl; exact rfl)
        | ((with_reducible apply c_cond); exact rfl; (first | exact Bp.not Bp.dec | exact Bp.dec | exact Bp.not Bp.bool | exact Bp.bool); all_goals intro hc))
    · (with_reducible refine k_back (k + 1, x :: out ++ [h u]) ?_ ?_ ?_ ?_ ?_ ?_)
      · refine ⟨by dsimp only; omega, by simp at *; omega, ?_⟩
        rw [hm, drop_consG hu, List.map_cons]
        simp
      · dsimp only; omega
      · exact ⟨rfl, by show TV.a (.s (.sl L 19 0 (List.map encC _).length)) = _; rw [List.length_map]; rfl, rfl, rfl, rfl, trivial⟩
      · exact ⟨rfl, trivial⟩
      · exact rfl
      · exact rfl
    · (with_reducible apply r_one); exact rfl; exact .tmp rfl .nil; exact .s (.sl rfl (List.length_map _).symm); exact hS; refine ⟨rfl, _, rfl, ?_⟩
      rw [hm, List.drop_of_length_le (by omega)]
      simp [orNil, slA, slP]
theorem eachB_AC (f : FuncId) (h : Tb → Option (List Bool)) (hf : ∀ t, ACv Try.prog f [uA t] fun v => v = .a (bA (h t))) (l : List Tb) (hl : l.length ≤ 1000) :
    ACv Try.prog 91 [cA (some l), .s (.clo f [])] fun v => v = .a (dbA (orNil (l.map h))) := by
  intro L S hL
  refine fn_St (n := 22) (rs := [.tmp 4]) hands_val RdT.ok RdT.mixed Try.func91 rfl (by kernel_rfl) rfl rfl rfl hL ?_
  intro hS
  show awp _ _ _ _ _ (St L 22 [(0, row 1 (l.map encC)), (1, .a (.s (.clo f [])))] S [])
  repeat' (first
      | (with_reducible refine want_none ?_)
      | (with_reducible refine c_seq ?_)
      | (with_reducible refine c_region ?_)
      | (with_reducible refine c_block ?_)
      | (with_reducible refine aops_nil ?_)
      | (with_reducible refine k_normal ?_)
      | (with_reducible refine c_skip ?_)
      | (with_reducible refine c_exit ?_)
      | (with_reducible refine c_ret ?_)
      | (with_reducible refine k_exit ?_)
      | (with_reducible refine kr_exit ?_)
      | (with_reducible refine kb_normal ?_)
      | (with_reducible refine kb_hit ?_)
      | ((with_reducible apply st_loadpel); exact rfl; exact rfl; omega; exact rfl; (intro u hu; refine ⟨_, rfl, ?_⟩; try simp only [Int.toNat_natCast] at hu))
      | ((with_reducible apply st_idx); exact rfl; exact rfl; exact rfl; exact rfl; exact rfl; omega)
      | ((with_reducible apply st_len RdT.ok); exact rfl; exact rfl; exact rfl; intro hlen)
      | ((with_reducible apply st_add); exact rfl; exact rfl; exact rfl; omega)
      | ((with_reducible apply st_q RdT.ok); exact rfl; exact rfl)
      | ((with_reducible apply c_cond); exact rfl; (first | exact Bp.not Bp.dec | exact Bp.dec | exact Bp.not Bp.bool | exact Bp.bool); all_goals intro hc))
  refine c_loop (β := Nat × List (Option (List Bool))) (fun b => b.1 ≤ l.length ∧ b.2.length = b.1 ∧ l.map h = b.2 ++ (l.drop b.1).map h) (fun b => l.length - b.1)
    (fun b => [(1, .a (.s (.clo f []))), (5, match b.2 with | [] => nilS | out => .a (.s (.sl L 19 0 out.length))), (8, row 1 (l.map encC)), (9, int l.length), (10, int b.1)])
    (fun b => match b.2 with | [] => [] | out => [(19, .row 30 1 (out.map encD))]) (0, []) ⟨Nat.zero_le _, rfl, rfl⟩ ⟨rfl, rfl, rfl, rfl, rfl, trivial⟩ trivial rfl rfl ?_
  rintro ⟨k, out⟩ ⟨hk, ho, hm⟩
  dsimp only at hk ho hm ⊢
  cases out with
  | nil =>
    dsimp only
    repeat' (first
        | (with_reducible refine want_none ?_)
        | (with_reducible refine c_seq ?_)
        | (with_reducible refine c_region ?_)
        | (with_reducible refine c_block ?_)
        | (with_reducible refine aops_nil ?_)
        | (with_reducible refine k_normal ?_)
        | (with_reducible refine c_skip ?_)
        | (with_reducible refine c_exit ?_)
        | (with_reducible refine c_ret ?_)
        | (with_reducible refine k_exit ?_)
        | (with_reducible refine kr_exit ?_)
        | (with_reducible refine kb_normal ?_)
        | (with_reducible refine kb_hit ?_)
        | ((with_reducible apply st_callv); exact rfl; exact rfl; exact rfl; exact rfl; exact hf u; (rintro v rfl))
        | ((with_reducible apply st_buildslice); exact rfl; exact rfl; exact rfl; exact rfl; exact rfl; exact rfl; exact rfl; exact rfl)
        | ((with_reducible apply st_append0); exact rfl; exact rfl; exact rfl; exact rfl; exact .own rfl rfl rfl; exact ⟨by show 1 * 24 ≤ 140737488355328; decide, by show 1 ≤ 9223372036854775807; decide⟩; exact rfl)
        | ((with_reducible apply st_loadpel); exact rfl; exact rfl; omega; exact rfl; (intro u hu; refine ⟨_, rfl, ?_⟩; try simp only [Int.toNat_natCast] at hu))
        | ((with_reducible apply st_idx); exact rfl; exact rfl; exact rfl; exact rfl; exact rfl; omega)
        | ((with_reducible apply st_len RdT.ok); exact rfl; exact rfl; exact rfl; intro hlen)
        | ((with_reducible apply st_add); exact rfl; exact rfl; exact rfl; omega)
        | ((with_reducible apply st_q RdT.ok); exact rfl; exact rfl)
        | ((with_reducible apply c_cond); exact rfl; (first | exact Bp.not Bp.dec | exact Bp.dec | exact Bp.not Bp.bool | exact Bp.bool); all_goals intro hc))
    · (with_reducible refine k_back (k + 1, [] ++ [h u]) ?_ ?_ ?_ ?_ ?_ ?_)
      · refine ⟨by dsimp only; omega, by simp at *; omega, ?_⟩
        rw [hm, drop_consG hu, List.map_cons]
        simp
      · dsimp only; omega
      · exact ⟨rfl, rfl, rfl, rfl, rfl, trivial⟩
      · exact ⟨rfl, trivial⟩
      · exact rfl
      · exact rfl
    · (with_reducible apply r_one); exact rfl; exact .tmp rfl .nil; exact .s (.pv _); exact hS; refine ⟨rfl, _, rfl, ?_⟩
      rw [hm, List.drop_of_length_le (by omega)]
      rfl
  | cons x out =>
    dsimp only
    repeat' (first
        | (with_reducible refine want_none ?_)
        | (with_reducible refine c_seq ?_)
        | (with_reducible refine c_region ?_)
        | (with_reducible refine c_block ?_)
        | (with_reducible refine aops_nil ?_)
        | (with_reducible refine k_normal ?_)
        | (with_reducible refine c_skip ?_)
        | (with_reducible refine c_exit ?_)
        | (with_reducible refine c_ret ?_)
        | (with_reducible refine k_exit ?_)
        | (with_reducible refine kr_exit ?_)
        | (with_reducible refine kb_normal ?_)
        | (with_reducible refine kb_hit ?_)
        | ((with_reducible apply st_callv); exact rfl; exact rfl; exact rfl; exact rfl; exact hf u; (rintro v rfl))
        | ((with_reducible apply st_buildslice); exact rfl; exact rfl; exact rfl; exact rfl; exact rfl; exact rfl; exact rfl; exact rfl)
        | ((with_reducible apply st_append1); exact rfl; exact rfl; exact rfl; exact rfl; exact (List.length_map _).symm; exact .own rfl rfl rfl; exact (List.map_append (l₂ := [h u])).symm; (rw [List.length_map, List.length_append]; refine ⟨?_, ?_⟩; (show _ * 24 ≤ _; simp at *; omega); (simp [maxLen] at *; omega)); exact rfl; exact rfl; exact rfl; exact rfl; exact rfl; exact rfl; exact rfl)
        | ((with_reducible apply st_loadpel); exact rfl; exact rfl; omega; exact rfl; (intro u hu; refine ⟨_, rfl, ?_⟩; try simp only [Int.toNat_natCast] at hu))
        | ((with_reducible apply st_idx); exact rfl; exact rfl; exact rfl; exact rfl; exact rfl; omega)
        | ((with_reducible apply st_len RdT.ok); exact rfl; exact rfl; exact rfl; intro hlen)
        | ((with_reducible apply st_add); exact rfl; exact rfl; exact rfl; omega)
        | ((with_reducible apply st_q RdT.ok); exact rfl; exact rfl)
        | ((with_reducible apply c_cond); exact rfl; (first | exact Bp.not Bp.dec | exact Bp.dec | exact Bp.not Bp.bool | exact Bp.bool); all_goals intro hc))
    · (with_reducible refine k_back (k + 1, x :: out ++ [h u]) ?_ ?_ ?_ ?_ ?_ ?_)
      · refine ⟨by dsimp only; omega, by simp at *; omega, ?_⟩
        rw [hm, drop_consG hu, List.map_cons]
        simp
      · dsimp only; omega
      · exact ⟨rfl, by show TV.a (.s (.sl L 19 0 (List.map encD _).length)) = _; rw [List.length_map]; rfl, rfl, rfl, rfl, trivial⟩
      · exact ⟨rfl, trivial⟩
      · exact rfl
      · exact rfl
    · (with_reducible apply r_one); exact rfl; exact .tmp rfl .nil; exact .s (.sl rfl (List.length_map _).symm); exact hS; refine ⟨rfl, _, rfl, ?_⟩
      rw [hm, List.drop_of_length_le (by omega)]
      simp [orNil, slA, slP]
def commitC (o : Option (List Tb)) : Option (List Tb) := if mayC o = true then some ((o.getD []).map commit) else none
theorem commitC_AC (o : Option (List Tb)) : ACv Try.prog 54 [cA o] fun v => v = .a (cA (commitC o)) := by
  intro L S hL
  refine fn_St (n := 8) (rs := [.tmp 2]) hands_val RdT.ok RdT.mixed Try.func54 rfl (by kernel_rfl) rfl rfl rfl hL ?_
  intro hS
  cases hmay : mayC o with
  | false =>
    show awp _ _ _ _ _ (St L 8 [(0, .a (cA o))] S [])
    repeat' (first
        | (with_reducible refine want_none ?_)
        | (with_reducible refine c_seq ?_)
        | (with_reducible refine c_region ?_)
        | (with_reducible refine aops_nil ?_)
        | (with_reducible refine k_normal ?_)
        | (with_reducible refine c_skip ?_)
        | (with_reducible refine c_ret ?_)
        | (with_reducible refine k_ret ?_)
        | ((with_reducible apply st_callv); exact rfl; exact rfl; exact rfl; exact rfl; exact mayC_AC o; (rintro v rfl); rw [hmay])
        | ((with_reducible apply st_q RdT.ok); exact rfl; exact rfl)
        | ((with_reducible apply c_condT); exact rfl)
        | ((with_reducible apply c_condF); exact rfl))
    ((with_reducible apply r_one); exact rfl; exact .tmp rfl .nil; exact .s (.pv _); exact hS; refine ⟨rfl, _, rfl, ?_⟩)
    rw [commitC, if_neg (by rw [hmay]; simp)]; rfl
  | true =>
    have hln : 1 ≤ (o.getD []).length ∧ (o.getD []).length ≤ 1000 := by
      unfold mayC at hmay
      rw [Bool.and_eq_true] at hmay
      exact of_decide_eq_true hmay.1
    cases o with
    | none => exact absurd hln.1 (by simp)
    | some l =>
      simp only [Option.getD_some] at hln
      have ho : orNil (l.map commit) = some (l.map commit) := by
        cases l with
        | nil => exact absurd hln.1 (by simp)
        | cons u r => rfl
      show awp _ _ _ _ _ (St L 8 [(0, row 1 (l.map encC))] S [])
      repeat' (first
          | (with_reducible refine want_none ?_)
          | (with_reducible refine c_seq ?_)
          | (with_reducible refine c_region ?_)
          | (with_reducible refine aops_nil ?_)
          | (with_reducible refine k_normal ?_)
          | (with_reducible refine c_skip ?_)
          | (with_reducible refine c_ret ?_)
          | (with_reducible refine k_ret ?_)
          | ((with_reducible apply st_callv); exact rfl; exact rfl; exact rfl; exact rfl; exact mayC_AC (some l); (rintro v rfl); rw [hmay])
          | ((with_reducible apply st_callv); exact rfl; exact rfl; exact rfl; exact rfl; exact eachU_AC 33 commit commit_AC l hln.2; (rintro v rfl); rw [ho])
          | ((with_reducible apply st_q RdT.ok); exact rfl; exact rfl)
          | ((with_reducible apply c_condT); exact rfl)
          | ((with_reducible apply c_condF); exact rfl))
      ((with_reducible apply r_one); exact rfl; exact .tmp rfl .nil; exact .s (.pv _); exact hS; refine ⟨rfl, _, rfl, ?_⟩)
      rw [commitC, if_pos hmay]; rfl
end Go.Proofs.Ytfdaioinghfjpaa
namespace Go.Proofs.Ytfdaioinghfjpaa
open Go.Rd Go.RowKit
set_option maxRecDepth 20000
set_option linter.unusedSimpArgs false
set_option linter.unusedVariables false
set_option maxHeartbeats 4000000
def bitsOf (t : Tb) : List Bool := used1 none16 (t.getD [])
theorem bitsOf_len (t : Tb) : (bitsOf t).length = 16 := by rw [bitsOf, used1_length]; rfl
theorem bitsOf_sz (t : Tb) : (bitsOf t).length < 9223372036854775807 := by rw [bitsOf_len]; decide
theorem bitsOf_ne (t : Tb) : bitsOf t ≠ [] := fun h => by have := congrArg List.length h; rw [bitsOf_len] at this; cases this
def emptyT (t : Tb) : Nat := if (t.getD []).length = 0 then 1 else 0
def sumOf (f : Tb → Nat) : List Tb → Nat
  | [] => 0
  | t :: r => f t + sumOf f r
theorem sumOf_take (f : Tb → Nat) {u : Tb} : ∀ {l : List Tb} {k : Nat}, l[k]? = some u → sumOf f (l.take (k + 1)) = sumOf f (l.take k) + f u
  | [], k, h => by simp at h
  | v :: r, 0, h => by simp at h; subst h; simp [sumOf]
  | v :: r, k + 1, h => by
    have := sumOf_take f (l := r) (k := k) (by simpa using h)
    rw [List.take_succ_cons, sumOf, List.take_succ_cons, sumOf, this]
    omega
theorem sumOf_le (f : Tb → Nat) (m : Nat) (hf : ∀ t, f t ≤ m) : ∀ l : List Tb, sumOf f l ≤ m * l.length
  | [] => by simp [sumOf]
  | t :: r => by
    have h1 := sumOf_le f m hf r
    have h2 := hf t
    rw [sumOf, List.length_cons, Nat.mul_add]
    omega
def fr (t : Tb) : Nat := free (bitsOf t)
theorem fr_le (t : Tb) : fr t ≤ 16 := by have := free_le (bitsOf t); rw [bitsOf_len] at this; exact this
theorem emptyT_le (t : Tb) : emptyT t ≤ 1 := by unfold emptyT; split <;> omega
def freeC (o : Option (List Tb)) : Int × Int := if mayC o = true then ((sumOf fr (o.getD []) : Int), (sumOf emptyT (o.getD []) : Int)) else (0, 0)
def freeCV (p : Int × Int) : TV := .tup [.s (.pv (.lit (.int .i64 p.1))), .s (.pv (.lit (.int .i64 p.2)))]
theorem freeC_AC (o : Option (List Tb)) : ACv Try.prog 43 [cA o] fun v => v = freeCV (freeC o) := by
  intro L S hL
  refine fn_St (n := 30) (rs := [.tmp 2, .tmp 3]) hands_val RdT.ok RdT.mixed Try.func43 rfl (by kernel_rfl) rfl rfl rfl hL ?_
  intro hS
  cases hmay : mayC o with
  | false =>
    show awp _ _ _ _ _ (St L 30 [(0, .a (cA o))] S [])
    repeat' (first
        | (with_reducible refine want_none ?_)
        | (with_reducible refine c_seq ?_)
        | (with_reducible refine c_region ?_)
        | (with_reducible refine c_block ?_)
        | (with_reducible refine aops_nil ?_)
        | (with_reducible refine k_normal ?_)
        | (with_reducible refine c_skip ?_)
        | (with_reducible refine c_exit ?_)
        | (with_reducible refine c_ret ?_)
        | (with_reducible refine k_ret ?_)
        | (with_reducible refine k_exit ?_)
        | (with_reducible refine kr_exit ?_)
        | (with_reducible refine kb_normal ?_)
        | (with_reducible refine kb_hit ?_)
        | ((with_reducible apply st_callv); exact rfl; exact rfl; exact rfl; exact rfl; exact mayC_AC o; (rintro v rfl); rw [hmay])
        | ((with_reducible apply st_loadpel); exact rfl; exact rfl; omega; exact rfl; (intro u hu; refine ⟨_, rfl, ?_⟩; try simp only [Int.toNat_natCast] at hu))
        | ((with_reducible apply st_idx); exact rfl; exact rfl; exact rfl; exact rfl; exact rfl; omega)
        | ((with_reducible apply st_len RdT.ok); exact rfl; exact rfl; exact rfl; intro hlen)
        | ((with_reducible apply st_lennil RdT.ok); exact rfl; exact rfl; exact rfl)
        | ((with_reducible apply st_add); exact rfl; exact rfl; exact rfl; omega)
        | ((with_reducible apply st_q RdT.ok); exact rfl; exact rfl)
        | ((with_reducible apply c_condT); exact rfl)
        | ((with_reducible apply c_condF); exact rfl)
        | ((with_reducible apply c_cond); exact rfl; (first | exact Bp.not Bp.dec | exact Bp.dec | exact Bp.not Bp.bool | exact Bp.bool); all_goals intro hc))
    (with_reducible apply r_tup); exact rfl; exact .tmp rfl (.tmp rfl .nil); exact rfl; exact .cons (.s (.pv _)) (.cons (.s (.pv _)) .nil); exact hS; refine ⟨rfl, _, rfl, ?_⟩
    rw [freeC, if_neg (by rw [hmay]; simp)]; rfl
  | true =>
    have hln := mayC_len hmay
    have hme := mayC_mem hmay
    cases o with
    | none => exact absurd hln.1 (by simp)
    | some l =>
      simp only [Option.getD_some] at hln hme
      rw [freeC, if_pos hmay, Option.getD_some]
      show awp _ _ _ _ _ (St L 30 [(0, row 1 (l.map encC))] S [])
      repeat' (first
          | (with_reducible refine want_none ?_)
          | (with_reducible refine c_seq ?_)
          | (with_reducible refine c_region ?_)
          | (with_reducible refine c_block ?_)
          | (with_reducible refine aops_nil ?_)
          | (with_reducible refine k_normal ?_)
          | (with_reducible refine c_skip ?_)
          | (with_reducible refine c_exit ?_)
          | (with_reducible refine c_ret ?_)
          | (with_reducible refine k_ret ?_)
          | (with_reducible refine k_exit ?_)
          | (with_reducible refine kr_exit ?_)
          | (with_reducible refine kb_normal ?_)
          | (with_reducible refine kb_hit ?_)
          | ((with_reducible apply st_callv); exact rfl; exact rfl; exact rfl; exact rfl; exact mayC_AC (some l); (rintro v rfl); rw [hmay])
          | ((with_reducible apply st_loadpel); exact rfl; exact rfl; omega; exact rfl; (intro u hu; refine ⟨_, rfl, ?_⟩; try simp only [Int.toNat_natCast] at hu))
          | ((with_reducible apply st_idx); exact rfl; exact rfl; exact rfl; exact rfl; exact rfl; omega)
          | ((with_reducible apply st_len RdT.ok); exact rfl; exact rfl; exact rfl; intro hlen)
          | ((with_reducible apply st_lennil RdT.ok); exact rfl; exact rfl; exact rfl)
          | ((with_reducible apply st_add); exact rfl; exact rfl; exact rfl; omega)
          | ((with_reducible apply st_q RdT.ok); exact rfl; exact rfl)
          | ((with_reducible apply c_condT); exact rfl)
          | ((with_reducible apply c_condF); exact rfl)
          | ((with_reducible apply c_cond); exact rfl; (first | exact Bp.not Bp.dec | exact Bp.dec | exact Bp.not Bp.bool | exact Bp.bool); all_goals intro hc))
      refine c_loop (β := Nat) (fun k => k ≤ l.length) (fun k => l.length - k) (fun k => [(4, int (sumOf fr (l.take k))), (5, int (sumOf emptyT (l.take k))), (11, row 1 (l.map encC)), (12, int l.length), (13, int k)]) (fun _ => []) 0 (Nat.zero_le _) ⟨rfl, rfl, rfl, rfl, rfl, trivial⟩ trivial rfl rfl ?_
      intro k hk
      have b1 := sumOf_le fr 16 fr_le (l.take k)
      have b2 := sumOf_le emptyT 1 emptyT_le (l.take k)
      rw [List.length_take] at b1 b2
      have hus : ∀ t, l[k]? = some t → used t = some (bitsOf t) := fun t ht => used_some (hme t (List.mem_of_getElem? ht))
      have hfr := fr_le
      repeat' (first
          | (with_reducible refine want_none ?_)
          | (with_reducible refine c_seq ?_)
          | (with_reducible refine c_region ?_)
          | (with_reducible refine c_block ?_)
          | (with_reducible refine aops_nil ?_)
          | (with_reducible refine k_normal ?_)
          | (with_reducible refine c_skip ?_)
          | (with_reducible refine c_exit ?_)
          | (with_reducible refine c_ret ?_)
          | (with_reducible refine k_ret ?_)
          | (with_reducible refine k_exit ?_)
          | (with_reducible refine kr_exit ?_)
          | (with_reducible refine kb_normal ?_)
          | (with_reducible refine kb_hit ?_)
          | ((with_reducible apply st_loadpel); exact rfl; exact rfl; omega; exact rfl; (intro u hu; simp only [Int.toNat_natCast] at hu; have hfu := fr_le u; rcases u with _ | u <;> refine ⟨_, rfl, ?_⟩))
          | ((with_reducible apply st_callv); exact rfl; exact rfl; exact rfl; exact rfl; exact used_AC none; (rintro v rfl); rw [hus _ hu])
          | ((with_reducible apply st_callv); exact rfl; exact rfl; exact rfl; exact rfl; exact used_AC (some u); (rintro v rfl); rw [hus _ hu])
          | ((with_reducible apply st_callv); exact rfl; exact rfl; exact rfl; exact rfl; exact runsFree_AC (bitsOf none) (bitsOf_sz _) (bitsOf_ne _); (rintro v rfl); rw [show free (bitsOf none) = fr none from rfl])
          | ((with_reducible apply st_callv); exact rfl; exact rfl; exact rfl; exact rfl; exact runsFree_AC (bitsOf (some u)) (bitsOf_sz _) (bitsOf_ne _); (rintro v rfl); rw [show free (bitsOf (some u)) = fr (some u) from rfl])
          | ((with_reducible apply st_loadpel); exact rfl; exact rfl; omega; exact rfl; (intro u hu; refine ⟨_, rfl, ?_⟩; try simp only [Int.toNat_natCast] at hu))
          | ((with_reducible apply st_idx); exact rfl; exact rfl; exact rfl; exact rfl; exact rfl; omega)
          | ((with_reducible apply st_len RdT.ok); exact rfl; exact rfl; exact rfl; intro hlen)
          | ((with_reducible apply st_lennil RdT.ok); exact rfl; exact rfl; exact rfl)
          | ((with_reducible apply st_add); exact rfl; exact rfl; exact rfl; omega)
          | ((with_reducible apply st_q RdT.ok); exact rfl; exact rfl)
          | ((with_reducible apply c_condT); exact rfl)
          | ((with_reducible apply c_condF); exact rfl)
          | ((with_reducible apply c_cond); exact rfl; (first | exact Bp.not Bp.dec | exact Bp.dec | exact Bp.not Bp.bool | exact Bp.bool); all_goals intro hc))
      all_goals first
        | ((with_reducible refine k_back (k + 1) ?_ ?_ ?_ ?_ ?_ ?_)
           · omega
           · omega
           · refine ⟨?_, ?_, rfl, rfl, rfl, trivial⟩
             · rw [sumOf_take fr hu]
               exact (show Rd.int ((sumOf fr (l.take k) : Int) + (fr _ : Int)) = _ from congrArg Rd.int (by omega))
             · rw [sumOf_take emptyT hu]
               first
                 | exact (show Rd.int ((sumOf emptyT (l.take k) : Int) + 1) = _ from congrArg Rd.int (by rw [show emptyT _ = 1 from if_pos (by first | rfl | (simp only [Option.getD_some]; omega))]; omega))
                 | exact (show Rd.int (sumOf emptyT (l.take k) : Int) = _ from congrArg Rd.int (by rw [show emptyT _ = 0 from if_neg (by simp only [Option.getD_some]; omega)]; omega))
           · exact trivial
           · exact rfl
           · exact rfl)
        | ((with_reducible apply r_tup); exact rfl; exact .tmp rfl (.tmp rfl .nil); exact rfl; exact .cons (.s (.pv _)) (.cons (.s (.pv _)) .nil); exact hS; refine ⟨rfl, _, rfl, ?_⟩
           rw [List.take_of_length_le (by omega)]
           rfl)
        | trace_state
end Go.Proofs.Ytfdaioinghfjpaa
