import Derived.Test.YtgnfjahkhhkmoaaDoorB2
namespace Go.Proofs.YtgnfjahkhhkmoaaDoor.V
open Go
set_option linter.unusedSimpArgs false
set_option linter.unusedVariables false

theorem Ty.sizes_app : ∀ (l m : List Ty), Ty.sizes (l ++ m) = Ty.sizes l + Ty.sizes m
  | [], m => by simp [Ty.sizes]
  | t :: l, m => by simp only [List.cons_append, Ty.sizes, Ty.sizes_app l m]; omega
theorem Ty.take_get {l : List Ty} {j : Nat} (h : j < l.length) : l.take (j + 1) = l.take j ++ [l.getD j ty0] := by
  rw [List.take_add_one, List.getD_eq_getElem?_getD, List.getElem?_eq_getElem h]; rfl
theorem Ty.sizes_take {l : List Ty} {j : Nat} (h : j < l.length) : Ty.sizes (l.take (j + 1)) = Ty.sizes (l.take j) + (l.getD j ty0).size := by
  rw [Ty.take_get h, Ty.sizes_app]; simp [Ty.sizes]
theorem Ty.sizes_take_le (l : List Ty) (j : Nat) : Ty.sizes (l.take j) ≤ Ty.sizes l := by
  have := Ty.sizes_app (l.take j) (l.drop j)
  rw [List.take_append_drop] at this
  omega
theorem Ty.encs_app (l m : List Ty) : Ty.encs (l ++ m) = Ty.encs l ++ Ty.encs m := by rw [Ty.encs_flat, Ty.encs_flat, Ty.encs_flat, List.flatMap_append]
theorem Ty.encs_one (t : Ty) : Ty.encs [t] = t.enc := by simp [Ty.encs]
theorem size_c (m : Nat) : ∀ (t : Ty) (n : Int), t.size < m → t.size ≤ 1000000000 → 1 ≤ n → n ≤ 1000000000 → PCalls Tryd.prog 11 [.agg t.enc, .v (.int .i64 n)] (.v (.int .i64 (min (t.size : Int) n))) := by
  induction m with
  | zero => intro t n h; omega
  | succ m ih =>
    rintro ⟨k, nu, l⟩ n hsz hs h1 h2
    simp only [Ty.size] at hs
    have hll := Ty.sizes_len l
    refine calls_body td_ok Tryd.func11 rfl rfl rfl ?_
    refine AWP_seq ?_
    refine AWP_region ?_
    refine st_box td_ok rfl rfl rfl rfl rfl rfl (by ((repeat' with_reducible apply And.intro) <;> exact rfl)) fun r2 hr2 => ?_
    refine st td_ok rfl rfl rfl rfl (r := .v _) rfl trivial ?_
    refine AOps_nil ?_
    refine qn ?_
    refine AWP_seq ?_
    refine AWP_region ?_
    refine st td_ok rfl rfl rfl rfl (r := .v _) rfl trivial ?_
    refine AOps_nil ?_
    refine qn ?_
    refine AWP_seq ?_
    refine AWP_seq ?_
    refine AWP_region ?_
    refine st td_ok rfl rfl rfl rfl (r := .v _) rfl trivial ?_
    refine st_own (r := .sl _ _ _) td_ok rfl rfl rfl rfl rfl rfl rfl XH.put_same (Nat.le_of_ble_eq_true rfl) rfl  ?_
    refine st td_ok rfl rfl rfl rfl (r := .v _) rfl trivial ?_
    refine st td_ok rfl rfl rfl rfl (r := .v _) rfl trivial ?_
    refine AOps_nil ?_
    refine qn ?_
    refine AWP_block ?_
    refine AWP_for (fun (x : Nat × Int) => [(1, .v (.int .i64 n)), (5, .v (.int .i64 x.2)), (9, .sl false l.length (Ty.encs l)), (10, .v (.int .i64 l.length)), (11, .v (.int .i64 x.1))]) (fun x X => x.1 ≤ l.length ∧ x.2 = min (1 + (Ty.sizes (l.take x.1) : Int)) n) (fun x => l.length - x.1) (0, 1) ⟨by (repeat' (first | exact rfl | exact trivial | apply And.intro)), ⟨Nat.zero_le _, by simp [Ty.sizes]; omega⟩⟩ ?_
    rintro x X ⟨hx1, hx2⟩
    refine AWP_seq ?_
    refine AWP_region ?_
    refine st td_ok rfl rfl rfl rfl (r := .v _) rfl trivial ?_
    refine AOps_nil ?_
    refine qn ?_
    refine AWP_seq ?_
    refine AWP_cond rfl rfl (fun h0 => ?_) (fun h0 => ?_)
    ·
      refine AWP_skip ?_
      refine qn ?_
      refine AWP_seq ?_
      refine AWP_block ?_
      refine AWP_seq ?_
      have hlt : x.1 < l.length := Int.ofNat_lt.mp (of_decide_eq_true h0)
      have hk := Ty.sizes_get l x.1 hlt
      have hst := Ty.sizes_take hlt
      have hsl := Ty.sizes_take_le l (x.1 + 1)
      obtain ⟨⟨k2, n2, l2⟩, hel⟩ : ∃ t, l.getD x.1 ty0 = t := ⟨_, rfl⟩
      have hsp := (Ty.mk k2 n2 l2).size_pos
      rw [hel] at hk hst
      refine AWP_region ?_
      (refine st td_ok rfl rfl rfl rfl (r := .pp _ _) rfl ?_ ?_; · ((repeat' with_reducible apply And.intro) <;> (first | omega | (simp only [Ty.encs_len, Ty.enc_len, cond_true, cond_false, nd, Option.getD_none, Option.getD_some, Int.toNat_natCast, strs_len, nums_len, List.length_append, tds2, tds3, tds4, tds5, tds9, tds12, tds21, tds22, tds23, tds24, tds25, tds30, tds31, tds32, tds33, tds34, tds36, tds43, tds45, tds47, tds57, tds62, tds66, tds69, decide_eq_true_eq, Bool.and_eq_true, Bool.not_eq_true', decide_eq_false_iff_not] at *; omega))))
      (refine st_eq td_ok rfl rfl rfl rfl (r := _) rfl ?_ ((show _ = AV.agg (Ty.mk k2 n2 l2).enc from (Ty.at_lt l x.1 hlt _).trans (by rw [hel]))) ?_; · ((repeat' with_reducible apply And.intro) <;> (simp only [Ty.encs_len, Ty.enc_len, cond_true, cond_false, nd, Option.getD_none, Option.getD_some, Int.toNat_natCast, strs_len, nums_len, List.length_append, tds2, tds3, tds4, tds5, tds9, tds12, tds21, tds22, tds23, tds24, tds25, tds30, tds31, tds32, tds33, tds34, tds36, tds43, tds45, tds47, tds57, tds62, tds66, tds69, decide_eq_true_eq, Bool.and_eq_true, Bool.not_eq_true', decide_eq_false_iff_not] at *; omega)))
      refine st_alloc td_ok rfl rfl rfl rfl rfl rfl (zs := [.v _, .v _, _]) rfl fun r7 hr7 => ?_
      refine st_store td_ok rfl rfl rfl rfl rfl rfl XH.put_same rfl (by ((repeat' with_reducible apply And.intro) <;> exact rfl)) (Nat.le_of_ble_eq_true rfl) (cs' := [.v _, .v _, _]) (T' := 25) rfl rfl ?_
      refine AOps_nil ?_
      refine qn ?_
      refine AWP_seq ?_
      refine AWP_seq ?_
      refine AWP_region ?_
      refine st td_ok rfl rfl rfl rfl (r := .v _) rfl trivial ?_
      refine st td_ok rfl rfl rfl rfl (r := .v _) rfl trivial ?_
      refine st td_ok rfl rfl rfl rfl (r := .v _) rfl trivial ?_
      refine AOps_nil ?_
      refine qn ?_
      refine AWP_cond rfl rfl (fun h1 => ?_) (fun h1 => ?_)
      ·
        refine AWP_seq ?_
        refine AWP_region ?_
        refine st td_ok rfl rfl rfl rfl (r := .v _) rfl trivial ?_
        refine st td_ok rfl rfl rfl rfl (r := .v _) rfl trivial ?_
        refine AOps_nil ?_
        refine qn ?_
        refine AWP_ret ?_
        refine qr ?_
        refine qbr ?_
        refine qr ?_
        refine qr ?_
        refine qbr ?_
        refine qr ?_
        refine ⟨_, _, _, _, rfl, trivial, GS.forget _ _, ?_⟩
        first | show AV.v _ = _ | show AV.tup _ = _ | show AV.sl _ _ _ = _ | show AV.agg _ = _ | skip
        simp only [decide_eq_true_eq] at h1
        have := Ty.sizes_take_le l x.1
        have e : n = min ((Ty.mk k nu l).size : Int) n := by simp only [Ty.size]; omega
        rw [← e]
      ·
        have h1' : x.2 < n := by simpa using h1
        refine AWP_skip ?_
        refine qn ?_
        refine AWP_region ?_
        refine st td_ok rfl rfl rfl rfl (r := .v _) rfl trivial ?_
        refine st_own (r := .agg [.v _, .v _, _]) td_ok rfl rfl rfl rfl rfl rfl rfl XH.put_same (Nat.le_of_ble_eq_true rfl) rfl  ?_
        refine st td_ok rfl rfl rfl rfl (r := .v _) rfl trivial ?_
        refine st td_ok rfl rfl rfl rfl (r := .v _) rfl trivial ?_
        refine st_eq td_ok rfl rfl rfl rfl (r := .v _) rfl trivial (w64 (by omega)) ?_
        refine st_pcall rfl rfl rfl rfl rfl rfl rfl ⟨_, rfl, rfl, rfl⟩ (ih (Ty.mk k2 n2 l2) (n - x.2) (by simp only [Ty.size] at hsz; omega) (by omega) (by omega) (by omega)) ?_
        refine st_eq td_ok rfl rfl rfl rfl (r := .v _) rfl trivial (w64 (by omega)) ?_
        refine st td_ok rfl rfl rfl rfl (r := .v _) rfl trivial ?_
        refine AOps_nil ?_
        refine qbn ?_
        refine qn ?_
        refine AWP_region ?_
        refine st_eq td_ok rfl rfl rfl rfl (r := .v _) rfl trivial (w64 (by omega)) ?_
        refine st td_ok rfl rfl rfl rfl (r := .v _) rfl trivial ?_
        refine AOps_nil ?_
        refine qn ?_
        exact ⟨(x.1 + 1, x.2 + min ((Ty.mk k2 n2 l2).size : Int) (n - x.2)), by dsimp only; omega, by (repeat' (first | exact rfl | exact trivial | apply And.intro)), by dsimp only; omega, by dsimp only; omega⟩
    ·
      refine AWP_exit ?_
      refine qx ?_
      refine qx ?_
      refine qbh ?_
      refine qn ?_
      refine AWP_seq ?_
      refine AWP_region ?_
      refine st td_ok rfl rfl rfl rfl (r := .v _) rfl trivial ?_
      refine st td_ok rfl rfl rfl rfl (r := .v _) rfl trivial ?_
      refine st td_ok rfl rfl rfl rfl (r := .v _) rfl trivial ?_
      refine st td_ok rfl rfl rfl rfl (r := .v _) rfl trivial ?_
      refine AOps_nil ?_
      refine qn ?_
      refine AWP_ret ?_
      refine ⟨_, _, _, _, rfl, trivial, GS.forget _ _, ?_⟩
      first | show AV.v _ = _ | show AV.tup _ = _ | show AV.sl _ _ _ = _ | show AV.agg _ = _ | skip
      have e1 : l.take x.1 = l := List.take_of_length_le (by simp only [decide_eq_false_iff_not] at h0; omega)
      rw [e1] at hx2
      have e : (if n < x.2 then n else x.2) = min ((Ty.mk k nu l).size : Int) n := by simp only [Ty.size]; split <;> omega
      rw [e]
theorem Size_c (m : Nat) : ∀ (t : Ty), t.size < m → t.size ≤ 1000000000 → PCalls Tryd.prog 13 [.agg t.enc] (.v (.int .i64 (t.size : Int))) := by
  induction m with
  | zero => intro t h; omega
  | succ m ih =>
    rintro ⟨k, nu, l⟩ hsz hs
    simp only [Ty.size] at hs
    have hll := Ty.sizes_len l
    refine calls_body td_ok Tryd.func13 rfl rfl rfl ?_
    refine AWP_seq ?_
    refine AWP_region ?_
    refine st_box td_ok rfl rfl rfl rfl rfl rfl (by ((repeat' with_reducible apply And.intro) <;> exact rfl)) fun r1 hr1 => ?_
    refine st td_ok rfl rfl rfl rfl (r := .v _) rfl trivial ?_
    refine AOps_nil ?_
    refine qn ?_
    refine AWP_seq ?_
    refine AWP_region ?_
    refine st td_ok rfl rfl rfl rfl (r := .v _) rfl trivial ?_
    refine AOps_nil ?_
    refine qn ?_
    refine AWP_seq ?_
    refine AWP_seq ?_
    refine AWP_region ?_
    refine st td_ok rfl rfl rfl rfl (r := .v _) rfl trivial ?_
    refine AOps_nil ?_
    refine qn ?_
    refine AWP_block ?_
    refine AWP_for (fun (x : Nat × Int) => [(1, .v (.pointer (some ⟨r1, 0, none⟩))), (3, .v (.int .i64 x.2)), (4, .v (.int .i64 x.1))]) (fun x X => x.1 ≤ l.length ∧ x.2 = 1 + (Ty.sizes (l.take x.1) : Int) ∧ X r1 = some ⟨25, (Ty.mk k nu l).enc⟩) (fun x => l.length - x.1) (0, 1) ⟨by (repeat' (first | exact rfl | exact trivial | apply And.intro)), ⟨Nat.zero_le _, rfl, XH.put_same⟩⟩ ?_
    rintro x X ⟨hx1, hx2, hx3⟩
    refine AWP_seq ?_
    refine AWP_seq ?_
    refine AWP_region ?_
    refine st td_ok rfl rfl rfl rfl (r := .v _) rfl trivial ?_
    refine st td_ok rfl rfl rfl rfl (r := .v _) rfl trivial ?_
    refine st_own (r := .sl _ _ _) td_ok rfl rfl rfl rfl rfl rfl rfl (by assumption) (Nat.le_of_ble_eq_true rfl) rfl  ?_
    refine st td_ok rfl rfl rfl rfl (r := .v _) rfl trivial ?_
    refine st td_ok rfl rfl rfl rfl (r := .v _) rfl trivial ?_
    refine AOps_nil ?_
    refine qn ?_
    refine AWP_cond rfl rfl (fun h0 => ?_) (fun h0 => ?_)
    ·
      refine AWP_skip ?_
      refine qn ?_
      refine AWP_seq ?_
      refine AWP_block ?_
      have hlt : x.1 < l.length := Int.ofNat_lt.mp (of_decide_eq_true h0)
      have hk := Ty.sizes_get l x.1 hlt
      have hst := Ty.sizes_take hlt
      have hsl := Ty.sizes_take_le l (x.1 + 1)
      refine AWP_region ?_
      refine st td_ok rfl rfl rfl rfl (r := .v _) rfl trivial ?_
      refine st td_ok rfl rfl rfl rfl (r := .v _) rfl trivial ?_
      refine st_own (r := .sl _ _ _) td_ok rfl rfl rfl rfl rfl rfl rfl (by assumption) (Nat.le_of_ble_eq_true rfl) rfl  ?_
      refine st td_ok rfl rfl rfl rfl (r := .v _) rfl trivial ?_
      (refine st td_ok rfl rfl rfl rfl (r := .pp _ _) rfl ?_ ?_; · ((repeat' with_reducible apply And.intro) <;> (first | omega | (simp only [Ty.encs_len, Ty.enc_len, cond_true, cond_false, nd, Option.getD_none, Option.getD_some, Int.toNat_natCast, strs_len, nums_len, List.length_append, tds2, tds3, tds4, tds5, tds9, tds12, tds21, tds22, tds23, tds24, tds25, tds30, tds31, tds32, tds33, tds34, tds36, tds43, tds45, tds47, tds57, tds62, tds66, tds69, decide_eq_true_eq, Bool.and_eq_true, Bool.not_eq_true', decide_eq_false_iff_not] at *; omega))))
      (refine st_eq td_ok rfl rfl rfl rfl (r := _) rfl ?_ ((Ty.at_lt l x.1 hlt _)) ?_; · ((repeat' with_reducible apply And.intro) <;> (simp only [Ty.encs_len, Ty.enc_len, cond_true, cond_false, nd, Option.getD_none, Option.getD_some, Int.toNat_natCast, strs_len, nums_len, List.length_append, tds2, tds3, tds4, tds5, tds9, tds12, tds21, tds22, tds23, tds24, tds25, tds30, tds31, tds32, tds33, tds34, tds36, tds43, tds45, tds47, tds57, tds62, tds66, tds69, decide_eq_true_eq, Bool.and_eq_true, Bool.not_eq_true', decide_eq_false_iff_not] at *; omega)))
      refine st_pcall rfl rfl rfl rfl rfl rfl rfl ⟨_, rfl, rfl, rfl⟩ (ih (l.getD x.1 ty0) (by simp only [Ty.size] at hsz; omega) (by omega)) ?_
      refine st_eq td_ok rfl rfl rfl rfl (r := .v _) rfl trivial (w64 (by omega)) ?_
      refine st td_ok rfl rfl rfl rfl (r := .v _) rfl trivial ?_
      refine AOps_nil ?_
      refine qbn ?_
      refine qn ?_
      refine AWP_region ?_
      refine st td_ok rfl rfl rfl rfl (r := .v _) rfl trivial ?_
      refine st_eq td_ok rfl rfl rfl rfl (r := .v _) rfl trivial (w64 (by omega)) ?_
      refine st td_ok rfl rfl rfl rfl (r := .v _) rfl trivial ?_
      refine AOps_nil ?_
      refine qn ?_
      exact ⟨(x.1 + 1, x.2 + ((l.getD x.1 ty0).size : Int)), by dsimp only; omega, by (repeat' (first | exact rfl | exact trivial | apply And.intro)), by dsimp only; omega, by dsimp only; omega, by assumption⟩
    ·
      refine AWP_exit ?_
      refine qx ?_
      refine qx ?_
      refine qbh ?_
      refine qn ?_
      refine AWP_seq ?_
      refine AWP_region ?_
      refine st td_ok rfl rfl rfl rfl (r := .v _) rfl trivial ?_
      refine st td_ok rfl rfl rfl rfl (r := .v _) rfl trivial ?_
      refine AOps_nil ?_
      refine qn ?_
      refine AWP_ret ?_
      refine ⟨_, _, _, _, rfl, trivial, GS.forget _ _, ?_⟩
      first | show AV.v _ = _ | show AV.tup _ = _ | show AV.sl _ _ _ = _ | show AV.agg _ = _ | skip
      have e1 : l.take x.1 = l := List.take_of_length_le (by simp only [decide_eq_false_iff_not] at h0; omega)
      rw [e1] at hx2
      have e : x.2 = ((Ty.mk k nu l).size : Int) := by simp only [Ty.size]; omega
      rw [e]
end Go.Proofs.YtgnfjahkhhkmoaaDoor.V
