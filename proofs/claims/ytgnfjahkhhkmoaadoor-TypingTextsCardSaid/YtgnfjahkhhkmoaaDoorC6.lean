import Derived.Test.YtgnfjahkhhkmoaaDoorC5
namespace Go.Proofs.YtgnfjahkhhkmoaaDoor.V
open Go
set_option linter.unusedSimpArgs false
set_option linter.unusedVariables false
set_option maxRecDepth 20000

theorem join_strs (g : Ty → List UInt8) (l : List Ty) : joinS (l.map fun t => mkS (g t)) ⟨#[44, 32]⟩ = mkS (Lib.join (l.map g) [44, 32]) := by
  unfold joinS
  rw [List.map_map]
  rfl
theorem mkS_inj {a b : List UInt8} (h : a = b) : AV.v (.string (mkS a)) = AV.v (.string (mkS b)) := by rw [h]
theorem texts_of (data : List Dat) (ta tb : Bool) (g : Ty → List UInt8) (l : List Ty) (hl : l.length ≤ 1000000000) (hg : jl (l.map g) ≤ 1000000000) (ih : ∀ j, j < l.length → PCalls Tryd.prog 15 [.sl ta data.length (data.flatMap Dat.enc), .agg (l.getD j ty0).enc] (.v (.string (mkS (g (l.getD j ty0)))))) :
    PCalls Tryd.prog 20 [.sl ta data.length (data.flatMap Dat.enc), .sl tb l.length (Ty.encs l)] (.v (.string (mkS (paren (l.map g))))) := by
  refine calls_body td_ok Tryd.func20 rfl rfl rfl ?_
  refine AWP_seq ?_
  refine AWP_region ?_
  refine st td_ok rfl rfl rfl rfl (r := .v _) rfl trivial ?_
  refine AOps_nil ?_
  refine qn ?_
  refine AWP_seq ?_
  refine AWP_region ?_
  refine st td_ok rfl rfl rfl rfl (r := .sl _ _ _) rfl trivial ?_
  refine AOps_nil ?_
  refine qn ?_
  refine AWP_seq ?_
  refine AWP_seq ?_
  refine AWP_region ?_
  refine st td_ok rfl rfl rfl rfl (r := .sl _ _ _) rfl trivial ?_
  refine st td_ok rfl rfl rfl rfl (r := .v _) rfl trivial ?_
  refine st td_ok rfl rfl rfl rfl (r := .v _) rfl trivial ?_
  refine AOps_nil ?_
  refine qn ?_
  refine AWP_block ?_
  refine AWP_for (fun (x : Nat × AV) => [(0, .sl ta data.length (data.flatMap Dat.enc)), (5, x.2), (8, .sl tb l.length (Ty.encs l)), (9, .v (.int .i64 l.length)), (10, .v (.int .i64 x.1))]) (fun x X => x.1 ≤ l.length ∧ Own X 9 1 x.2 x.1 (strs ((l.take x.1).map fun t => mkS (g t)))) (fun x => l.length - x.1) (0, .sl true 0 []) ⟨by (repeat' (first | exact rfl | exact trivial | apply And.intro)), ⟨Nat.zero_le _, Own.nil _ _ _⟩⟩ ?_
  rintro x X ⟨hx1, hown⟩
  refine AWP_seq ?_
  refine AWP_region ?_
  refine st td_ok rfl rfl rfl rfl (r := .v _) rfl trivial ?_
  refine AOps_nil ?_
  refine qn ?_
  refine AWP_seq ?_
  refine AWP_cond rfl rfl (fun h0 => ?_) (fun h0 => ?_)
  ·
    refine AWP_skip ?_
    refine qn ?_
    refine AWP_seq ?_
    refine AWP_block ?_
    refine AWP_seq ?_
    have hlt : x.1 < l.length := Int.ofNat_lt.mp (of_decide_eq_true h0)
    have hc := ih x.1 hlt
    have htk : (l.take (x.1 + 1)).map (fun t => mkS (g t)) = (l.take x.1).map (fun t => mkS (g t)) ++ [mkS (g (l.getD x.1 ty0))] := by rw [take_get (d := ty0) hlt, List.map_append]; rfl
    obtain ⟨⟨k2, n2, l2⟩, hel⟩ : ∃ t, l.getD x.1 ty0 = t := ⟨_, rfl⟩
    rw [hel] at hc htk
    refine AWP_region ?_
    (refine st td_ok rfl rfl rfl rfl (r := .pp _ _) rfl ?_ ?_; · ((repeat' with_reducible apply And.intro) <;> (first | omega | (simp only [Ty.encs_len, Ty.enc_len, dats_len, mkS_size, List.length_append, List.length_map, List.length_take, cond_true, cond_false, nd, Option.getD_none, Option.getD_some, Int.toNat_natCast, strs_len, nums_len, List.length_append, tds2, tds3, tds4, tds5, tds9, tds12, tds21, tds22, tds23, tds24, tds25, tds30, tds31, tds32, tds33, tds34, tds36, tds43, tds45, tds47, tds57, tds62, tds66, tds69, decide_eq_true_eq, Bool.and_eq_true, Bool.not_eq_true', decide_eq_false_iff_not] at *; omega))))
    (refine st_eq td_ok rfl rfl rfl rfl (r := _) rfl ?_ ((show _ = AV.agg (Ty.mk k2 n2 l2).enc from (Ty.at_lt l x.1 hlt _).trans (by rw [hel]))) ?_; · ((repeat' with_reducible apply And.intro) <;> (simp only [Ty.encs_len, Ty.enc_len, dats_len, mkS_size, List.length_append, List.length_map, List.length_take, cond_true, cond_false, nd, Option.getD_none, Option.getD_some, Int.toNat_natCast, strs_len, nums_len, List.length_append, tds2, tds3, tds4, tds5, tds9, tds12, tds21, tds22, tds23, tds24, tds25, tds30, tds31, tds32, tds33, tds34, tds36, tds43, tds45, tds47, tds57, tds62, tds66, tds69, decide_eq_true_eq, Bool.and_eq_true, Bool.not_eq_true', decide_eq_false_iff_not] at *; omega)))
    refine st_alloc td_ok rfl rfl rfl rfl rfl rfl (zs := [.v _, .v _, _]) rfl fun r7 hr7 => ?_
    refine st_store td_ok rfl rfl rfl rfl rfl rfl XH.put_same rfl (by ((repeat' with_reducible apply And.intro) <;> exact rfl)) (Nat.le_of_ble_eq_true rfl) (cs' := [.v _, .v _, _]) (T' := 25) rfl rfl ?_
    refine AOps_nil ?_
    refine qn ?_
    have hn7 := Own.nat hown hr7
    refine AWP_region ?_
    refine st td_ok rfl rfl rfl rfl (r := _) rfl trivial ?_
    refine st td_ok rfl rfl rfl rfl (r := .sl _ _ _) rfl trivial ?_
    refine st_own (r := .agg [.v _, .v _, _]) td_ok rfl rfl rfl rfl rfl rfl rfl XH.put_same (Nat.le_of_ble_eq_true rfl) rfl  ?_
    refine st_pcall rfl rfl rfl rfl rfl rfl rfl ⟨_, rfl, rfl, rfl⟩ hc ?_
    refine st_lit td_ok rfl rfl rfl rfl rfl rfl rfl rfl rfl (by decide)  rfl (by ((repeat' with_reducible apply And.intro) <;> (first | with_reducible exact trivial | exact rfl)))  ?_
    refine st_append td_ok rfl rfl rfl rfl rfl rfl rfl rfl rfl rfl (.inl ⟨_, rfl⟩) (by decide) (Own.put (Own.put hown hn7) hn7) rfl rfl rfl (by show (x.1 + 1) * 16 ≤ _; omega) fun a19 X19 ho19 hr19 ha19 => ?_
    refine st td_ok rfl rfl rfl rfl (r := _) rfl trivial ?_
    refine AOps_nil ?_
    refine qbn ?_
    refine qn ?_
    refine AWP_region ?_
    refine st_eq td_ok rfl rfl rfl rfl (r := .v _) rfl trivial (w64 (by omega)) ?_
    refine st td_ok rfl rfl rfl rfl (r := .v _) rfl trivial ?_
    refine AOps_nil ?_
    refine qn ?_
    refine ⟨(x.1 + 1, a19), by dsimp only; omega, by (repeat' (first | exact rfl | exact trivial | apply And.intro)), by dsimp only; omega, ?_⟩
    dsimp only
    rw [htk, ← strs_app1]
    exact ho19
  ·
    refine AWP_exit ?_
    refine qx ?_
    refine qx ?_
    refine qbh ?_
    refine qn ?_
    refine AWP_seq ?_
    have hx0 : x.1 = l.length := by simp only [decide_eq_false_iff_not] at h0; omega
    rw [hx0, List.take_length] at hown
    have hjl : (Lib.join (l.map g) [44, 32]).length ≤ 1000000000 := Nat.le_trans (join_le _) hg
    have hjc : PCalls Tryd.prog 24 [.sl false l.length (strs (l.map fun t => mkS (g t))), .v (.string ⟨#[44, 32]⟩)] (.v (.string (mkS (Lib.join (l.map g) [44, 32])))) := by
      have h1 := Join_c (l.map fun t => mkS (g t)) ⟨#[44, 32]⟩ false (by rw [List.length_map]; omega) (by rw [List.map_map]; exact Nat.le_trans hjl (by decide))
      rw [join_strs, List.length_map] at h1
      exact h1
    obtain ⟨X', hgs, hrest⟩ := GS.give hown [] [.v (.string ⟨#[44, 32]⟩)]
    refine AWP_region ?_
    refine st td_ok rfl rfl rfl rfl (r := _) rfl trivial ?_
    refine st_call rfl rfl rfl rfl rfl rfl rfl ⟨_, rfl, rfl, rfl⟩ (ACalls.mono (ACalls.gs hgs (hjc.any X')) ?_)
    rintro av X'' ⟨rfl, rfl⟩
    (refine st_eq td_ok rfl rfl rfl rfl (r := _) rfl ?_ ((show _ = AV.v (.string (mkS ([40] ++ Lib.join (l.map g) [44, 32]))) from congrArg (fun b => AV.v (.string b)) (mkS_app [40] _))) ?_; · show (mkS [40]).size + (mkS _).size ≤ _; rw [mkS_size, mkS_size]; simp only [List.length_cons, List.length_nil]; omega)
    (refine st_eq td_ok rfl rfl rfl rfl (r := _) rfl ?_ ((show _ = AV.v (.string (mkS (paren (l.map g)))) from congrArg (fun b => AV.v (.string b)) (mkS_app _ [41]))) ?_; · show (mkS _).size + (mkS [41]).size ≤ _; rw [mkS_size, mkS_size]; simp only [List.length_append, List.length_cons, List.length_nil]; omega)
    refine st td_ok rfl rfl rfl rfl (r := .v _) rfl trivial ?_
    refine AOps_nil ?_
    refine qn ?_
    refine AWP_ret ?_
    refine ⟨_, _, _, _, rfl, trivial, GS.forget _ _, ?_⟩
    first | show AV.v _ = _ | show AV.tup _ = _ | show AV.sl _ _ _ = _ | show AV.agg _ = _ | skip
    rfl
end Go.Proofs.YtgnfjahkhhkmoaaDoor.V
