/- Contracts: slices.Insert of one element. -/
import Derived.Test.YtfdaioinghfjpaaF14
namespace Go.Proofs.Ytfdaioinghfjpaa
open Go.Rd Go.RowKit
set_option maxRecDepth 20000

theorem hands_or {X Y : (RV → Store → Prop) → ASt → TV → Prop} (hx : Hands X) (hy : Hands Y) : Hands fun R st v => X R st v ∨ Y R st v := by
  intro R st v h
  rcases h with h | h
  · exact hx R st v h
  · exact hy R st v h
theorem retQ_inl {T : TypeId → Option TI} {rs : List ResultVar} {X Y : (RV → Store → Prop) → ASt → TV → Prop} {R : RV → Store → Prop} {e : Exit} {st : ASt} (he : isEnd e = true) (h : retQ T rs (X R) e st)
    (hm : ∀ K K' : List TV → Prop, (∀ vs, K vs → K' vs) → resK T st rs K → resK T st rs K') : retQ T rs (fun st v => X R st v ∨ Y R st v) e st := by
  cases e <;> first | exact hm _ _ (fun vs ⟨v, h1, h2⟩ => ⟨v, h1, .inl h2⟩) h | cases he
theorem retQ_inr {T : TypeId → Option TI} {rs : List ResultVar} {X Y : (RV → Store → Prop) → ASt → TV → Prop} {R : RV → Store → Prop} {e : Exit} {st : ASt} (he : isEnd e = true) (h : retQ T rs (Y R) e st)
    (hm : ∀ K K' : List TV → Prop, (∀ vs, K vs → K' vs) → resK T st rs K → resK T st rs K') : retQ T rs (fun st v => X R st v ∨ Y R st v) e st := by
  cases e <;> first | exact hm _ _ (fun vs ⟨v, h1, h2⟩ => ⟨v, h1, .inr h2⟩) h | cases he
theorem resK_tmp1 {T : TypeId → Option TI} {st : ASt} {t : Nat} : ∀ K K' : List TV → Prop, (∀ vs, K vs → K' vs) → resK T st [.tmp t] K → resK T st [.tmp t] K' := fun _ _ h hk => h _ hk

/-- slices.overlaps, at two rows. -/
theorem overlaps_ext {S : Store} {l0 b0 off len cap l1 b1 n1 : Nat} {es es1 : List (List PV)} (h0 : S l0 b0 = some (.row 41 4 es)) (h1 : S l1 b1 = some (.row 41 4 es1)) (hne : ¬ (l1 = l0 ∧ b1 = b0)) (hlen : 0 < off + cap) :
    Ext Try.prog 109 [.s (.sl l1 b1 0 n1), .s (.slc l0 b0 off len cap)] S (Rd.bool false) := by
  refine ⟨Try.f109, _, Try.func109, by kernel_rfl, by kernel_rfl, by kernel_rfl, rfl, fun w ι vals hl hlen' hr => ?_⟩
  obtain ⟨v0, v1, rfl⟩ : ∃ v0 v1, vals = [v0, v1] := by
    match vals, hlen' with
    | [v0, v1], _ => exact ⟨v0, v1, rfl⟩
  obtain ⟨e1, z1, s1, cap1, c1, q1, rfl, _, _, _, q2, _⟩ := hr 0 _ _ rfl rfl
  obtain ⟨e2, z2, s2, c2, r1, rfl, _, _, r2, r3⟩ := hr 1 _ _ rfl rfl
  rw [h1] at q1
  rw [h0] at r1
  simp only [Option.some.injEq, AObj.row.injEq] at q1 r1
  obtain ⟨rfl, rfl, rfl⟩ := q1
  obtain ⟨rfl, rfl, rfl⟩ := r1
  have hz := hl.inj l1 b1 _ l0 b0 _ h1 h0
  have hTk := RdT.ok 22 _ rfl
  refine ⟨.bool false, ?_, RepP.lit _ rfl⟩
  have := Lib.run_overlaps_apart (P := Try.prog) w 22 4 41 hTk.desc.1 4 (fun w' => run_sizeOf_ti w' (RdT.ok 41 _ rfl)) ⟨ι l1 b1, 0 * 4, none⟩ ⟨ι l0 b0, off * 4, none⟩ n1 cap1 len cap (fun e => hne (hz e))
    41 41 c1.size c2.size (by simp [World.shape?, q2]) (by simp [World.shape?, r2]) (by omega) (by simp [World.frozen?, q2]) (by simp [World.frozen?, q2])
  exact this

def insOf (l : List U) (i : Nat) (u : U) : List U := l.take i ++ u :: l.drop i

theorem insert_slc (l : List U) (u : U) (i l0 b N l1 b1 L : Nat) (S : Store) (hi : i ≤ l.length) (hN : l.length ≤ N) (hNm : N ≤ maxLen) (hl0 : l0 < L) (hl1 : l1 < L) (hne : ¬ (l1 = l0 ∧ b1 = b)) (ho : S l0 b = some (.row 41 4 (l.map encU)))
    (ho1 : S l1 b1 = some (.row 41 4 [encU u])) (hby : (l.length + 1) * 32 ≤ 140737488355328) :
    AC Try.prog L 77 [.s (.slc l0 b 0 l.length N), .s (.pv (.lit (.int .i64 i))), .s (.sl l1 b1 0 1)] S fun r S' =>
      (S' = S ∧ r = .own 41 4 ((insOf l i u).map encU)) ∨ (S' = upd S l0 b (some (.row 41 4 ((insOf l i u).map encU))) ∧ r = .val (.a (.s (.slc l0 b 0 (l.length + 1) N)))) := by
  have hm : (N : Int) ≤ 9223372036854775807 := by have : maxLen = 9223372036854775807 := rfl; omega
  have hm2 : l.length + 1 ≤ maxLen := by have : maxLen = 9223372036854775807 := rfl; omega
  have hlm : (l.map encU).length = l.length := List.length_map _
  refine fn_St (n := 95) (rs := [.tmp 6]) (hands_or hands_val hands_own) RdT.ok RdT.mixed Try.func77 rfl (by kernel_rfl) rfl rfl rfl (by omega) ?_
  intro hS
  show awp _ _ _ _ _ (St L 95 [(0, .a (.s (.slc l0 b 0 l.length N))), (1, int i), (2, .a (.s (.sl l1 b1 0 1)))] S [])
  have hnews : ([encU u].drop 0).take (min (l.length + 1 - i) 1) = [encU u] := by
    rw [show min (l.length + 1 - i) 1 = 1 by omega]
    rfl
  by_cases hin : i = l.length
  · subst hin
    have hA1 : over (l.map encU) l.length (([encU u].drop 0).take 1) = (insOf l l.length u).map encU := by
      simp only [over, insOf, List.drop_zero, List.take_one, List.head?_cons, Option.toList_some, List.take_length, List.drop_length, List.map_append, List.map_cons, List.map_nil]
      rw [List.take_of_length_le (by rw [hlm]; exact Nat.le_refl _), List.drop_of_length_le (by rw [hlm]; simp)]
      rfl
    have hA2 : (l.map encU).take l.length ++ (([encU u].drop 0).take 1) = (insOf l l.length u).map encU := by
      simp only [insOf, List.drop_zero, List.take_one, List.head?_cons, Option.toList_some, List.take_length, List.drop_length, List.map_append, List.map_cons, List.map_nil]
      rw [List.take_of_length_le (by rw [hlm]; exact Nat.le_refl _)]
    repeat' (first
    | (with_reducible refine want_none ?_)
    | (with_reducible refine c_seq ?_)
    | (with_reducible refine c_region ?_)
    | ((with_reducible refine c_regionD ?_ ?_ ?_ ?_); (kernel_rfl); (exact rfl); (exact rfl))
    | (with_reducible refine c_block ?_)
    | (with_reducible refine aops_nil ?_)
    | (with_reducible refine k_normal ?_)
    | (with_reducible refine c_skip ?_)
    | (with_reducible refine c_exit ?_)
    | (with_reducible refine c_ret ?_)
    | (with_reducible refine k_ret ?_)
    | (with_reducible refine k_exit ?_)
    | (with_reducible refine kl_ret ?_)
    | (with_reducible refine kl_exit ?_)
    | (with_reducible refine kr_ret ?_)
    | (with_reducible refine kr_exit ?_)
    | (with_reducible refine kb_normal ?_)
    | (with_reducible refine kb_ret ?_)
    | (with_reducible refine kb_hit ?_)
    | ((with_reducible refine kb_miss ?_ ?_); exact rfl)
    | ((with_reducible apply want_run); exact rfl; exact rfl)
    | ((with_reducible apply want_skip); exact rfl; exact rfl; exact rfl)
    | ((with_reducible apply want_out); exact rfl; exact rfl; exact rfl)
    | ((with_reducible apply want_forkF); exact rfl; exact rfl; exact rfl; (first | exact Bp.not Bp.dec | exact Bp.dec | exact Bp.not Bp.bool | exact Bp.bool); all_goals intro hc)
    | ((with_reducible apply want_forkT); exact rfl; exact rfl; exact rfl; (first | exact Bp.not Bp.dec | exact Bp.dec | exact Bp.not Bp.bool | exact Bp.bool); all_goals intro hc)
    | ((with_reducible apply st_lenslc RdT.ok); exact rfl; exact rfl; exact rfl; intro hlen) | ((with_reducible apply st_lenown RdT.ok); exact rfl; exact rfl; exact rfl; intro hlen) | ((with_reducible apply st_cap RdT.ok); exact rfl; exact rfl; exact rfl; intro hcapp) | ((with_reducible apply st_slcE l.length 0 (N - l.length)); exact rfl; exact rfl; exact rfl; exact rfl; exact (mkO_low _ _ _ hl0).trans ho; exact rfl; omega; omega) | (intro hb0) | (exfalso; omega) | ((with_reducible apply st_appendL); exact rfl; exact rfl; exact rfl; exact hl0; exact ho; exact rfl; exact rfl; exact SrcA.sl ((mkO_low _ _ _ hl1).trans ho1); (rw [hlm]; exact Nat.le_refl _); exact hm2; exact rfl; exact hA1; exact hA2; (intro _; exact hby))
    | ((with_reducible apply st_alloc); exact rfl; exact rfl; exact rfl; exact rfl)
    | ((with_reducible apply st_box); exact rfl; exact rfl; exact rfl; exact rfl)
    | ((with_reducible apply st_loadpelK); exact rfl; exact rfl; assumption; exact rfl; exact rfl)
    | ((with_reducible apply st_loadpel); exact rfl; exact rfl; omega; exact rfl; (intro u hu; refine ⟨_, rfl, ?_⟩; try simp only [Int.toNat_natCast] at hu))
    | ((with_reducible apply st_load); exact rfl; exact rfl; exact rfl; exact rfl; exact rfl)
    | ((with_reducible apply st_store); exact rfl; exact rfl; exact rfl; exact rfl; exact rfl; exact rfl)
    | ((with_reducible apply st_idx); exact rfl; exact rfl; exact rfl; exact rfl; exact rfl; omega)
    | ((with_reducible apply st_len RdT.ok); exact rfl; exact rfl; exact rfl; intro hlen)
    | ((with_reducible apply st_lennil RdT.ok); exact rfl; exact rfl; exact rfl)
    | ((with_reducible apply st_add); exact rfl; exact rfl; exact rfl; omega)
    | ((with_reducible apply st_sub); exact rfl; exact rfl; exact rfl; omega)
    | ((with_reducible apply st_q RdT.ok); exact rfl; exact rfl)
    | ((with_reducible apply c_condT); exact rfl)
    | ((with_reducible apply c_condF); exact rfl)
    | ((with_reducible apply c_cond); exact rfl; (first | exact Bp.not Bp.dec | exact Bp.dec | exact Bp.not Bp.bool | exact Bp.bool); all_goals intro hc))
    all_goals first
      | (refine retQ_inl rfl ?_ resK_tmp1
         (with_reducible apply r_one); exact rfl; exact .tmp rfl .nil; exact .s (.slcL hl0); exact sup_upd hS hl0; exact .inr ⟨rfl, rfl⟩)
      | (refine retQ_inr rfl ?_ resK_tmp1
         (with_reducible apply r_own); exact rfl; exact .tmp rfl .nil; exact rfl; exact rfl; exact hS; exact .inl ⟨rfl, rfl⟩)
  · by_cases hroom : l.length + 1 ≤ N
    · repeat' (first
    | (with_reducible refine want_none ?_)
    | (with_reducible refine c_seq ?_)
    | (with_reducible refine c_region ?_)
    | ((with_reducible refine c_regionD ?_ ?_ ?_ ?_); (kernel_rfl); (exact rfl); (exact rfl))
    | (with_reducible refine c_block ?_)
    | (with_reducible refine aops_nil ?_)
    | (with_reducible refine k_normal ?_)
    | (with_reducible refine c_skip ?_)
    | (with_reducible refine c_exit ?_)
    | (with_reducible refine c_ret ?_)
    | (with_reducible refine k_ret ?_)
    | (with_reducible refine k_exit ?_)
    | (with_reducible refine kl_ret ?_)
    | (with_reducible refine kl_exit ?_)
    | (with_reducible refine kr_ret ?_)
    | (with_reducible refine kr_exit ?_)
    | (with_reducible refine kb_normal ?_)
    | (with_reducible refine kb_ret ?_)
    | (with_reducible refine kb_hit ?_)
    | ((with_reducible refine kb_miss ?_ ?_); exact rfl)
    | ((with_reducible apply want_run); exact rfl; exact rfl)
    | ((with_reducible apply want_skip); exact rfl; exact rfl; exact rfl)
    | ((with_reducible apply want_out); exact rfl; exact rfl; exact rfl)
    | ((with_reducible apply want_forkF); exact rfl; exact rfl; exact rfl; (first | exact Bp.not Bp.dec | exact Bp.dec | exact Bp.not Bp.bool | exact Bp.bool); all_goals intro hc)
    | ((with_reducible apply want_forkT); exact rfl; exact rfl; exact rfl; (first | exact Bp.not Bp.dec | exact Bp.dec | exact Bp.not Bp.bool | exact Bp.bool); all_goals intro hc)
    | ((with_reducible apply st_lenslc RdT.ok); exact rfl; exact rfl; exact rfl; intro hlen) | ((with_reducible apply st_lenown RdT.ok); exact rfl; exact rfl; exact rfl; intro hlen) | ((with_reducible apply st_cap RdT.ok); exact rfl; exact rfl; exact rfl; intro hcapp) | ((with_reducible apply st_slcE i (l.length - i) (N - i)); exact rfl; exact rfl; exact rfl; exact rfl; exact (mkO_low _ _ _ hl0).trans ho; exact rfl; omega; omega) | (intro hb0) | (exfalso; omega) | ((with_reducible apply st_slcE 0 (l.length + 1) N); exact rfl; exact rfl; exact rfl; exact rfl; exact (mkO_low _ _ _ hl0).trans ho; exact rfl; omega; omega) | ((with_reducible apply st_slcE (i + 1) (l.length - i) (N - (i + 1))); exact rfl; exact rfl; exact rfl; exact rfl; exact (mkO_low _ _ _ hl0).trans ho; exact rfl; omega; omega) | ((with_reducible apply st_ext); exact rfl; exact rfl; exact rfl; exact overlaps_ext ((mkO_low _ _ _ hl0).trans ho) ((mkO_low _ _ _ hl1).trans ho1) hne (by omega))
    | ((with_reducible apply st_alloc); exact rfl; exact rfl; exact rfl; exact rfl)
    | ((with_reducible apply st_box); exact rfl; exact rfl; exact rfl; exact rfl)
    | ((with_reducible apply st_loadpelK); exact rfl; exact rfl; assumption; exact rfl; exact rfl)
    | ((with_reducible apply st_loadpel); exact rfl; exact rfl; omega; exact rfl; (intro u hu; refine ⟨_, rfl, ?_⟩; try simp only [Int.toNat_natCast] at hu))
    | ((with_reducible apply st_load); exact rfl; exact rfl; exact rfl; exact rfl; exact rfl)
    | ((with_reducible apply st_store); exact rfl; exact rfl; exact rfl; exact rfl; exact rfl; exact rfl)
    | ((with_reducible apply st_idx); exact rfl; exact rfl; exact rfl; exact rfl; exact rfl; omega)
    | ((with_reducible apply st_len RdT.ok); exact rfl; exact rfl; exact rfl; intro hlen)
    | ((with_reducible apply st_lennil RdT.ok); exact rfl; exact rfl; exact rfl)
    | ((with_reducible apply st_add); exact rfl; exact rfl; exact rfl; omega)
    | ((with_reducible apply st_sub); exact rfl; exact rfl; exact rfl; omega)
    | ((with_reducible apply st_q RdT.ok); exact rfl; exact rfl)
    | ((with_reducible apply c_condT); exact rfl)
    | ((with_reducible apply c_condF); exact rfl)
    | ((with_reducible apply c_cond); exact rfl; (first | exact Bp.not Bp.dec | exact Bp.dec | exact Bp.not Bp.bool | exact Bp.bool); all_goals intro hc))
      refine c_regionA 9 rfl ?_
      (with_reducible apply d_take RdT.ok 0); exact rfl; exact rfl; exact rfl; exact rfl; kernel_rfl; kernel_rfl; kernel_rfl; exact rfl; exact rfl
      (with_reducible apply d_take RdT.ok 1); exact rfl; exact rfl; exact rfl; exact rfl; kernel_rfl; kernel_rfl; kernel_rfl; exact rfl; exact rfl
      (with_reducible apply d_take RdT.ok 2); exact rfl; exact rfl; exact rfl; exact rfl; kernel_rfl; kernel_rfl; kernel_rfl; exact rfl; exact rfl
      (with_reducible apply d_add 3); exact rfl; kernel_rfl; kernel_rfl; kernel_rfl; exact rfl; exact rfl; exact rfl; omega
      (with_reducible apply d_take RdT.ok 5); exact rfl; exact rfl; exact rfl; exact rfl; kernel_rfl; kernel_rfl; kernel_rfl; exact rfl; exact rfl
      (with_reducible apply d_take RdT.ok 6); exact rfl; exact rfl; exact rfl; exact rfl; kernel_rfl; kernel_rfl; kernel_rfl; exact rfl; exact rfl
      have hov : over (l.map encU) (i + 1) (((l.map encU).drop i).take (min (l.length - i) (l.length + 1 - i))) = (l.map encU).take (i + 1) ++ (l.map encU).drop i := by
        rw [show min (l.length - i) (l.length + 1 - i) = l.length - i by omega, List.take_of_length_le (by rw [List.length_drop, hlm]; exact Nat.le_refl _)]
        unfold over
        have hd : (l.map encU).drop (i + 1 + (l.length - i)) = [] := List.drop_of_length_le (by rw [hlm]; omega)
        rw [List.length_drop, hlm, hd, List.append_nil]
      have hov2 : over ((l.map encU).take (i + 1) ++ (l.map encU).drop i) i (([encU u].drop 0).take (min (l.length + 1 - i) 1)) = (insOf l i u).map encU := by
        rw [hnews]
        unfold over insOf
        rw [List.take_append_of_le_length (by rw [List.length_take, hlm]; omega), List.take_take, List.drop_append_of_le_length (by rw [List.length_take, hlm]; simp; omega), List.map_append, List.map_cons, List.map_take, List.map_drop, show min i (i + 1) = i by omega]
        rw [show [encU u].length = 1 from rfl, List.drop_of_length_le (by rw [List.length_take, hlm]; omega)]
        rfl
      have hEl : ((l.map encU).take (i + 1) ++ (l.map encU).drop i).length = l.length + 1 := by
        rw [List.length_append, List.length_take, List.length_drop, hlm]; omega
      (with_reducible apply d_two 4 7); kernel_rfl; exact rfl; exact rfl
      all_goals first | ((with_reducible apply st_slcE (i + 1) (l.length - i) (N - (i + 1))); exact rfl; exact rfl; exact rfl; exact rfl; exact (mkO_low _ _ _ hl0).trans ho; exact rfl; omega; omega) | ((with_reducible apply st_slcE i (l.length + 1 - i) (N - i)); exact rfl; exact rfl; exact rfl; exact rfl; exact (mkO_low _ _ _ hl0).trans ho; exact rfl; omega; omega)
      all_goals intro hb1
      all_goals first | (exfalso; omega) | refine aops_nil ?_
      all_goals first | ((with_reducible apply d_one 7); (decide +kernel); exact rfl) | ((with_reducible apply d_one 4); (decide +kernel); exact rfl)
      all_goals first | ((with_reducible apply st_slcE (i + 1) (l.length - i) (N - (i + 1))); exact rfl; exact rfl; exact rfl; exact rfl; exact (mkO_low _ _ _ hl0).trans ho; exact rfl; omega; omega) | ((with_reducible apply st_slcE i (l.length + 1 - i) (N - i)); exact rfl; exact rfl; exact rfl; exact rfl; exact (mkO_low _ _ _ hl0).trans ho; exact rfl; omega; omega)
      all_goals intro hb2
      all_goals first | (exfalso; omega) | refine aops_nil ?_
      all_goals ((with_reducible apply d_one 8); kernel_rfl; exact rfl)
      all_goals ((with_reducible apply st_copyL); exact rfl; exact rfl; exact rfl; exact hl0; exact ho; exact rfl; exact SrcR.slc ((mkO_low _ _ _ hl0).trans ho) (by rw [hlm]; omega); (rw [hlm]; omega); (rw [List.length_take, List.length_drop, hlm]; omega); exact hov; refine put_some rfl (aops_nil (d_done (by decide +kernel) ?_)))
      all_goals repeat' (first
    | (with_reducible refine want_none ?_)
    | (with_reducible refine c_seq ?_)
    | (with_reducible refine c_region ?_)
    | ((with_reducible refine c_regionD ?_ ?_ ?_ ?_); (kernel_rfl); (exact rfl); (exact rfl))
    | (with_reducible refine c_block ?_)
    | (with_reducible refine aops_nil ?_)
    | (with_reducible refine k_normal ?_)
    | (with_reducible refine c_skip ?_)
    | (with_reducible refine c_exit ?_)
    | (with_reducible refine c_ret ?_)
    | (with_reducible refine k_ret ?_)
    | (with_reducible refine k_exit ?_)
    | (with_reducible refine kl_ret ?_)
    | (with_reducible refine kl_exit ?_)
    | (with_reducible refine kr_ret ?_)
    | (with_reducible refine kr_exit ?_)
    | (with_reducible refine kb_normal ?_)
    | (with_reducible refine kb_ret ?_)
    | (with_reducible refine kb_hit ?_)
    | ((with_reducible refine kb_miss ?_ ?_); exact rfl)
    | ((with_reducible apply want_run); exact rfl; exact rfl)
    | ((with_reducible apply want_skip); exact rfl; exact rfl; exact rfl)
    | ((with_reducible apply want_out); exact rfl; exact rfl; exact rfl)
    | ((with_reducible apply want_forkF); exact rfl; exact rfl; exact rfl; (first | exact Bp.not Bp.dec | exact Bp.dec | exact Bp.not Bp.bool | exact Bp.bool); all_goals intro hc)
    | ((with_reducible apply want_forkT); exact rfl; exact rfl; exact rfl; (first | exact Bp.not Bp.dec | exact Bp.dec | exact Bp.not Bp.bool | exact Bp.bool); all_goals intro hc)
    | ((with_reducible apply st_slcE i (l.length + 1 - i) (N - i)); exact rfl; exact rfl; exact rfl; exact rfl; exact (mkO_low _ _ _ hl0).trans (upd_same _ _ _ _); exact rfl; omega; omega) | (intro hb3) | (exfalso; omega) | ((with_reducible apply st_copyL); exact rfl; exact rfl; exact rfl; exact hl0; exact upd_same _ _ _ _; exact rfl; exact SrcR.sl ((mkO_low _ _ _ hl1).trans ((upd_ne _ _ hne).trans ho1)); (rw [hEl]; omega); (rw [hnews]; show i + 1 ≤ _; omega); exact hov2; refine put_some rfl ?_)
    | ((with_reducible apply st_alloc); exact rfl; exact rfl; exact rfl; exact rfl)
    | ((with_reducible apply st_box); exact rfl; exact rfl; exact rfl; exact rfl)
    | ((with_reducible apply st_loadpelK); exact rfl; exact rfl; assumption; exact rfl; exact rfl)
    | ((with_reducible apply st_loadpel); exact rfl; exact rfl; omega; exact rfl; (intro u hu; refine ⟨_, rfl, ?_⟩; try simp only [Int.toNat_natCast] at hu))
    | ((with_reducible apply st_load); exact rfl; exact rfl; exact rfl; exact rfl; exact rfl)
    | ((with_reducible apply st_store); exact rfl; exact rfl; exact rfl; exact rfl; exact rfl; exact rfl)
    | ((with_reducible apply st_idx); exact rfl; exact rfl; exact rfl; exact rfl; exact rfl; omega)
    | ((with_reducible apply st_len RdT.ok); exact rfl; exact rfl; exact rfl; intro hlen)
    | ((with_reducible apply st_lennil RdT.ok); exact rfl; exact rfl; exact rfl)
    | ((with_reducible apply st_add); exact rfl; exact rfl; exact rfl; omega)
    | ((with_reducible apply st_sub); exact rfl; exact rfl; exact rfl; omega)
    | ((with_reducible apply st_q RdT.ok); exact rfl; exact rfl)
    | ((with_reducible apply c_condT); exact rfl)
    | ((with_reducible apply c_condF); exact rfl)
    | ((with_reducible apply c_cond); exact rfl; (first | exact Bp.not Bp.dec | exact Bp.dec | exact Bp.not Bp.bool | exact Bp.bool); all_goals intro hc))
      all_goals
        refine retQ_inl rfl ?_ resK_tmp1
        (with_reducible apply r_one); exact rfl; exact .tmp rfl .nil; exact .s (.slcL hl0); exact sup_upd (sup_upd hS hl0) hl0; exact .inr ⟨upd_upd _ _ _ _ _, rfl⟩
    · obtain ⟨Z, hZ⟩ : ∃ Z, (l.map encU).take i ++ List.replicate (l.length + 1 - i) (RdT.i41.zero.map PV.lit) = Z := ⟨_, rfl⟩
      have hZl : Z.length = l.length + 1 := by rw [← hZ, List.length_append, List.length_take, List.length_replicate, hlm]; omega
      obtain ⟨Z2, hZ2⟩ : ∃ Z2, over Z i (([encU u].drop 0).take (min (l.length + 1 - i) 1)) = Z2 := ⟨_, rfl⟩
      have hZ2l : Z2.length = l.length + 1 := by rw [← hZ2, over_length (by omega), hnews, hZl]; show max (l.length + 1) (i + 1) = _; omega
      have hZ3 : over Z2 (i + 1) (((l.map encU).drop i).take (min (l.length - i) (l.length - i))) = (insOf l i u).map encU := by
        rw [Nat.min_self, List.take_of_length_le (by rw [List.length_drop, hlm]; exact Nat.le_refl _)]
        have h1 : Z2.take (i + 1) = (l.map encU).take i ++ [encU u] := by
          rw [← hZ2, hnews]
          unfold over
          rw [← List.append_assoc, List.take_append_of_le_length (by simp; omega), List.take_of_length_le (by simp; omega), ← hZ, List.take_append_of_le_length (by rw [List.length_take, hlm]; omega), List.take_take, Nat.min_self]
        unfold over insOf
        have hd : Z2.drop (i + 1 + (l.length - i)) = [] := List.drop_of_length_le (by omega)
        rw [h1, List.length_drop, hlm, hd, List.append_nil, List.map_append, List.map_cons, List.map_take, List.map_drop, List.append_assoc]
        rfl
      repeat' (first
    | (with_reducible refine want_none ?_)
    | (with_reducible refine c_seq ?_)
    | (with_reducible refine c_region ?_)
    | ((with_reducible refine c_regionD ?_ ?_ ?_ ?_); (kernel_rfl); (exact rfl); (exact rfl))
    | (with_reducible refine c_block ?_)
    | (with_reducible refine aops_nil ?_)
    | (with_reducible refine k_normal ?_)
    | (with_reducible refine c_skip ?_)
    | (with_reducible refine c_exit ?_)
    | (with_reducible refine c_ret ?_)
    | (with_reducible refine k_ret ?_)
    | (with_reducible refine k_exit ?_)
    | (with_reducible refine kl_ret ?_)
    | (with_reducible refine kl_exit ?_)
    | (with_reducible refine kr_ret ?_)
    | (with_reducible refine kr_exit ?_)
    | (with_reducible refine kb_normal ?_)
    | (with_reducible refine kb_ret ?_)
    | (with_reducible refine kb_hit ?_)
    | ((with_reducible refine kb_miss ?_ ?_); exact rfl)
    | ((with_reducible apply want_run); exact rfl; exact rfl)
    | ((with_reducible apply want_skip); exact rfl; exact rfl; exact rfl)
    | ((with_reducible apply want_out); exact rfl; exact rfl; exact rfl)
    | ((with_reducible apply want_forkF); exact rfl; exact rfl; exact rfl; (first | exact Bp.not Bp.dec | exact Bp.dec | exact Bp.not Bp.bool | exact Bp.bool); all_goals intro hc)
    | ((with_reducible apply want_forkT); exact rfl; exact rfl; exact rfl; (first | exact Bp.not Bp.dec | exact Bp.dec | exact Bp.not Bp.bool | exact Bp.bool); all_goals intro hc)
    | ((with_reducible apply st_lenslc RdT.ok); exact rfl; exact rfl; exact rfl; intro hlen) | ((with_reducible apply st_lenown RdT.ok); exact rfl; exact rfl; exact rfl; intro hlen) | ((with_reducible apply st_cap RdT.ok); exact rfl; exact rfl; exact rfl; intro hcapp) | ((with_reducible apply st_slO i (l.length + 1 - i)); exact rfl; exact rfl; exact rfl; exact rfl; exact mkO_own _ _ _ _; exact rfl; omega; omega) | ((with_reducible apply st_copyO); exact rfl; exact rfl; exact rfl; exact rfl; exact rfl; exact SrcR.sl ((mkO_low _ _ _ hl1).trans ho1); omega; (rw [hnews]; show i + 1 ≤ _; omega); exact hZ2; exact rfl; refine put_some rfl ?_) | ((with_reducible apply st_slcE i (l.length - i) (N - i)); exact rfl; exact rfl; exact rfl; exact rfl; exact (mkO_low _ _ _ hl0).trans ho; exact rfl; omega; omega) | (intro hb0) | (exfalso; omega) | ((with_reducible apply st_slcE 0 i N); exact rfl; exact rfl; exact rfl; exact rfl; exact (mkO_low _ _ _ hl0).trans ho; exact rfl; omega; omega) | ((with_reducible apply st_appendZ (m := l.length + 1 - i)); exact rfl; exact RdT.ok; exact rfl; exact rfl; exact rfl; exact hl0; exact ho; exact rfl; exact rfl; omega; omega; (rw [hlm]; exact hi); omega; exact rfl; omega; exact hZ; (rw [show i + (l.length + 1 - i) = l.length + 1 by omega]; exact hby))
    | ((with_reducible apply st_alloc); exact rfl; exact rfl; exact rfl; exact rfl)
    | ((with_reducible apply st_box); exact rfl; exact rfl; exact rfl; exact rfl)
    | ((with_reducible apply st_loadpelK); exact rfl; exact rfl; assumption; exact rfl; exact rfl)
    | ((with_reducible apply st_loadpel); exact rfl; exact rfl; omega; exact rfl; (intro u hu; refine ⟨_, rfl, ?_⟩; try simp only [Int.toNat_natCast] at hu))
    | ((with_reducible apply st_load); exact rfl; exact rfl; exact rfl; exact rfl; exact rfl)
    | ((with_reducible apply st_store); exact rfl; exact rfl; exact rfl; exact rfl; exact rfl; exact rfl)
    | ((with_reducible apply st_idx); exact rfl; exact rfl; exact rfl; exact rfl; exact rfl; omega)
    | ((with_reducible apply st_len RdT.ok); exact rfl; exact rfl; exact rfl; intro hlen)
    | ((with_reducible apply st_lennil RdT.ok); exact rfl; exact rfl; exact rfl)
    | ((with_reducible apply st_add); exact rfl; exact rfl; exact rfl; omega)
    | ((with_reducible apply st_sub); exact rfl; exact rfl; exact rfl; omega)
    | ((with_reducible apply st_q RdT.ok); exact rfl; exact rfl)
    | ((with_reducible apply c_condT); exact rfl)
    | ((with_reducible apply c_condF); exact rfl)
    | ((with_reducible apply c_cond); exact rfl; (first | exact Bp.not Bp.dec | exact Bp.dec | exact Bp.not Bp.bool | exact Bp.bool); all_goals intro hc))
      refine c_regionA 9 rfl ?_
      (with_reducible apply d_take RdT.ok 0); exact rfl; exact rfl; exact rfl; exact rfl; kernel_rfl; kernel_rfl; kernel_rfl; exact rfl; exact rfl
      (with_reducible apply d_take RdT.ok 1); exact rfl; exact rfl; exact rfl; exact rfl; kernel_rfl; kernel_rfl; kernel_rfl; exact rfl; exact rfl
      (with_reducible apply d_take RdT.ok 2); exact rfl; exact rfl; exact rfl; exact rfl; kernel_rfl; kernel_rfl; kernel_rfl; exact rfl; exact rfl
      (with_reducible apply d_add 3); exact rfl; kernel_rfl; kernel_rfl; kernel_rfl; exact rfl; exact rfl; exact rfl; omega
      (with_reducible apply d_take RdT.ok 5); exact rfl; exact rfl; exact rfl; exact rfl; kernel_rfl; kernel_rfl; kernel_rfl; exact rfl; exact rfl
      (with_reducible apply d_take RdT.ok 6); exact rfl; exact rfl; exact rfl; exact rfl; kernel_rfl; kernel_rfl; kernel_rfl; exact rfl; exact rfl
      (with_reducible apply d_two 4 7); kernel_rfl; exact rfl; exact rfl
      all_goals first | ((with_reducible apply st_slO (i + 1) (l.length - i)); exact rfl; exact rfl; exact rfl; exact rfl; exact mkO_own _ _ _ _; exact rfl; omega; omega) | ((with_reducible apply st_slcE i (l.length - i) (N - i)); exact rfl; exact rfl; exact rfl; exact rfl; exact (mkO_low _ _ _ hl0).trans ho; exact rfl; omega; omega)
      all_goals try intro hb1
      all_goals first | (exfalso; omega) | refine aops_nil ?_
      all_goals first | ((with_reducible apply d_one 7); (decide +kernel); exact rfl) | ((with_reducible apply d_one 4); (decide +kernel); exact rfl)
      all_goals first | ((with_reducible apply st_slO (i + 1) (l.length - i)); exact rfl; exact rfl; exact rfl; exact rfl; exact mkO_own _ _ _ _; exact rfl; omega; omega) | ((with_reducible apply st_slcE i (l.length - i) (N - i)); exact rfl; exact rfl; exact rfl; exact rfl; exact (mkO_low _ _ _ hl0).trans ho; exact rfl; omega; omega)
      all_goals try intro hb2
      all_goals first | (exfalso; omega) | refine aops_nil ?_
      all_goals ((with_reducible apply d_one 8); kernel_rfl; exact rfl)
      all_goals ((with_reducible apply st_copyO); exact rfl; exact rfl; exact rfl; exact rfl; exact rfl; exact SrcR.slc ((mkO_low _ _ _ hl0).trans ho) (by rw [hlm]; omega); omega; (rw [List.length_take, List.length_drop, hlm]; omega); exact hZ3; exact rfl; refine put_some rfl (aops_nil (d_done (by decide +kernel) ?_)))
      all_goals repeat' (first
    | (with_reducible refine want_none ?_)
    | (with_reducible refine c_seq ?_)
    | (with_reducible refine c_region ?_)
    | ((with_reducible refine c_regionD ?_ ?_ ?_ ?_); (kernel_rfl); (exact rfl); (exact rfl))
    | (with_reducible refine c_block ?_)
    | (with_reducible refine aops_nil ?_)
    | (with_reducible refine k_normal ?_)
    | (with_reducible refine c_skip ?_)
    | (with_reducible refine c_exit ?_)
    | (with_reducible refine c_ret ?_)
    | (with_reducible refine k_ret ?_)
    | (with_reducible refine k_exit ?_)
    | (with_reducible refine kl_ret ?_)
    | (with_reducible refine kl_exit ?_)
    | (with_reducible refine kr_ret ?_)
    | (with_reducible refine kr_exit ?_)
    | (with_reducible refine kb_normal ?_)
    | (with_reducible refine kb_ret ?_)
    | (with_reducible refine kb_hit ?_)
    | ((with_reducible refine kb_miss ?_ ?_); exact rfl)
    | ((with_reducible apply want_run); exact rfl; exact rfl)
    | ((with_reducible apply want_skip); exact rfl; exact rfl; exact rfl)
    | ((with_reducible apply want_out); exact rfl; exact rfl; exact rfl)
    | ((with_reducible apply want_forkF); exact rfl; exact rfl; exact rfl; (first | exact Bp.not Bp.dec | exact Bp.dec | exact Bp.not Bp.bool | exact Bp.bool); all_goals intro hc)
    | ((with_reducible apply want_forkT); exact rfl; exact rfl; exact rfl; (first | exact Bp.not Bp.dec | exact Bp.dec | exact Bp.not Bp.bool | exact Bp.bool); all_goals intro hc)
    | ((with_reducible apply st_alloc); exact rfl; exact rfl; exact rfl; exact rfl)
    | ((with_reducible apply st_box); exact rfl; exact rfl; exact rfl; exact rfl)
    | ((with_reducible apply st_loadpelK); exact rfl; exact rfl; assumption; exact rfl; exact rfl)
    | ((with_reducible apply st_loadpel); exact rfl; exact rfl; omega; exact rfl; (intro u hu; refine ⟨_, rfl, ?_⟩; try simp only [Int.toNat_natCast] at hu))
    | ((with_reducible apply st_load); exact rfl; exact rfl; exact rfl; exact rfl; exact rfl)
    | ((with_reducible apply st_store); exact rfl; exact rfl; exact rfl; exact rfl; exact rfl; exact rfl)
    | ((with_reducible apply st_idx); exact rfl; exact rfl; exact rfl; exact rfl; exact rfl; omega)
    | ((with_reducible apply st_len RdT.ok); exact rfl; exact rfl; exact rfl; intro hlen)
    | ((with_reducible apply st_lennil RdT.ok); exact rfl; exact rfl; exact rfl)
    | ((with_reducible apply st_add); exact rfl; exact rfl; exact rfl; omega)
    | ((with_reducible apply st_sub); exact rfl; exact rfl; exact rfl; omega)
    | ((with_reducible apply st_q RdT.ok); exact rfl; exact rfl)
    | ((with_reducible apply c_condT); exact rfl)
    | ((with_reducible apply c_condF); exact rfl)
    | ((with_reducible apply c_cond); exact rfl; (first | exact Bp.not Bp.dec | exact Bp.dec | exact Bp.not Bp.bool | exact Bp.bool); all_goals intro hc))
      all_goals
        refine retQ_inr rfl ?_ resK_tmp1
        (with_reducible apply r_own); exact rfl; exact .tmp rfl .nil; exact rfl; (rw [hZl, List.length_map]; simp [insOf]; omega); exact hS; exact .inl ⟨rfl, rfl⟩

theorem insert_AC (l : List U) (u : U) (i l0 b l1 b1 L : Nat) (S : Store) (hi : i ≤ l.length) (hl0 : l0 < L) (hl1 : l1 < L) (hne : ¬ (l1 = l0 ∧ b1 = b)) (ho : S l0 b = some (.row 41 4 (l.map encU)))
    (ho1 : S l1 b1 = some (.row 41 4 [encU u])) (hby : (l.length + 1) * 32 ≤ 140737488355328) :
    AC Try.prog L 77 [.s (.sl l0 b 0 l.length), .s (.pv (.lit (.int .i64 i))), .s (.sl l1 b1 0 1)] S fun r S' =>
      (S' = S ∧ r = .own 41 4 ((insOf l i u).map encU)) ∨ (S' = upd S l0 b (some (.row 41 4 ((insOf l i u).map encU))) ∧ r = .val (.a (.s (.sl l0 b 0 (l.length + 1))))) := by
  refine AC_reveal (fun N h1 h2 => AC_slOut ((insert_slc l u i l0 b N l1 b1 L S hi h1 h2 hl0 hl1 hne ho ho1 hby).mono ?_)) (by simp only [maxLen]; omega)
  rintro r S' (⟨rfl, rfl⟩ | ⟨rfl, rfl⟩)
  · exact .inl (.inl ⟨rfl, rfl⟩)
  · exact .inr ⟨l0, b, _, N, 41, 4, _, rfl, upd_same _ _ _ _, by rw [List.length_map]; simp [insOf]; omega, .inr ⟨rfl, rfl⟩⟩

theorem insOf_length (l : List U) (i : Nat) (u : U) (hi : i ≤ l.length) : (insOf l i u).length = l.length + 1 := by
  simp only [insOf, List.length_append, List.length_take, List.length_cons, List.length_drop]
  omega
/-- .. into nil. -/
theorem insert_nil (u : U) (l1 b1 L : Nat) (S : Store) (hL : 0 < L) (hl1 : l1 < L) (ho1 : S l1 b1 = some (.row 41 4 [encU u])) :
    AC Try.prog L 77 [uA none, .s (.pv (.lit (.int .i64 0))), .s (.sl l1 b1 0 1)] S fun r S' => S' = S ∧ r = .own 41 4 [encU u] := by
  refine fn_St (n := 95) (rs := [.tmp 6]) hands_own RdT.ok RdT.mixed Try.func77 rfl (by kernel_rfl) rfl rfl rfl (by omega) ?_
  intro hS
  show awp _ _ _ _ _ (St L 95 [(0, nilS), (1, int 0), (2, .a (.s (.sl l1 b1 0 1)))] S [])
  repeat' (first
    | (with_reducible refine want_none ?_)
    | (with_reducible refine c_seq ?_)
    | (with_reducible refine c_region ?_)
    | ((with_reducible refine c_regionD ?_ ?_ ?_ ?_); (kernel_rfl); (exact rfl); (exact rfl))
    | (with_reducible refine c_block ?_)
    | (with_reducible refine aops_nil ?_)
    | (with_reducible refine k_normal ?_)
    | (with_reducible refine c_skip ?_)
    | (with_reducible refine c_exit ?_)
    | (with_reducible refine c_ret ?_)
    | (with_reducible refine k_ret ?_)
    | (with_reducible refine k_exit ?_)
    | (with_reducible refine kl_ret ?_)
    | (with_reducible refine kl_exit ?_)
    | (with_reducible refine kr_ret ?_)
    | (with_reducible refine kr_exit ?_)
    | (with_reducible refine kb_normal ?_)
    | (with_reducible refine kb_ret ?_)
    | (with_reducible refine kb_hit ?_)
    | ((with_reducible refine kb_miss ?_ ?_); exact rfl)
    | ((with_reducible apply want_run); exact rfl; exact rfl)
    | ((with_reducible apply want_skip); exact rfl; exact rfl; exact rfl)
    | ((with_reducible apply want_out); exact rfl; exact rfl; exact rfl)
    | ((with_reducible apply want_forkF); exact rfl; exact rfl; exact rfl; (first | exact Bp.not Bp.dec | exact Bp.dec | exact Bp.not Bp.bool | exact Bp.bool); all_goals intro hc)
    | ((with_reducible apply want_forkT); exact rfl; exact rfl; exact rfl; (first | exact Bp.not Bp.dec | exact Bp.dec | exact Bp.not Bp.bool | exact Bp.bool); all_goals intro hc)
    | ((with_reducible apply st_lenown RdT.ok); exact rfl; exact rfl; exact rfl; intro hlen) | ((with_reducible apply st_slnil); exact rfl; exact rfl; exact rfl; exact rfl; exact rfl) | ((with_reducible apply st_append0A); exact rfl; exact rfl; exact rfl; exact rfl; exact rfl; exact NewsA.sl ((mkO_low _ _ _ hl1).trans ho1); exact ⟨Nat.le_of_ble_eq_true rfl, Nat.le_of_ble_eq_true rfl⟩; exact rfl)
    | ((with_reducible apply st_alloc); exact rfl; exact rfl; exact rfl; exact rfl)
    | ((with_reducible apply st_box); exact rfl; exact rfl; exact rfl; exact rfl)
    | ((with_reducible apply st_loadpelK); exact rfl; exact rfl; assumption; exact rfl; exact rfl)
    | ((with_reducible apply st_loadpel); exact rfl; exact rfl; omega; exact rfl; (intro u hu; refine ⟨_, rfl, ?_⟩; try simp only [Int.toNat_natCast] at hu))
    | ((with_reducible apply st_load); exact rfl; exact rfl; exact rfl; exact rfl; exact rfl)
    | ((with_reducible apply st_store); exact rfl; exact rfl; exact rfl; exact rfl; exact rfl; exact rfl)
    | ((with_reducible apply st_idx); exact rfl; exact rfl; exact rfl; exact rfl; exact rfl; omega)
    | ((with_reducible apply st_len RdT.ok); exact rfl; exact rfl; exact rfl; intro hlen)
    | ((with_reducible apply st_lennil RdT.ok); exact rfl; exact rfl; exact rfl)
    | ((with_reducible apply st_add); exact rfl; exact rfl; exact rfl; omega)
    | ((with_reducible apply st_sub); exact rfl; exact rfl; exact rfl; omega)
    | ((with_reducible apply st_q RdT.ok); exact rfl; exact rfl)
    | ((with_reducible apply c_condT); exact rfl)
    | ((with_reducible apply c_condF); exact rfl)
    | ((with_reducible apply c_cond); exact rfl; (first | exact Bp.not Bp.dec | exact Bp.dec | exact Bp.not Bp.bool | exact Bp.bool); all_goals intro hc))
  (with_reducible apply r_own); exact rfl; exact .tmp rfl .nil; exact rfl; exact rfl; exact hS; exact ⟨rfl, rfl⟩
end Go.Proofs.Ytfdaioinghfjpaa
