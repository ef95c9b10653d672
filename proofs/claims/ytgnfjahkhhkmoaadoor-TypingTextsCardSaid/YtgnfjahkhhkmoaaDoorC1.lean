import Derived.Test.YtgnfjahkhhkmoaaDoorB4
namespace Go.Proofs.YtgnfjahkhhkmoaaDoor.V
open Go
set_option linter.unusedSimpArgs false
set_option linter.unusedVariables false
set_option maxRecDepth 20000

theorem any_go {α : Type} {l : List α} {p : α → Bool} {d : α} {j : Nat} (h : j < l.length) (hp : p (l.getD j d) = false) : (l.drop j).any p = (l.drop (j + 1)).any p := by
  rw [List.getD_eq_getElem?_getD, List.getElem?_eq_getElem h, Option.getD_some] at hp
  rw [List.drop_eq_getElem_cons h, List.any_cons, hp, Bool.false_or]
theorem any_yes {α : Type} {l : List α} {p : α → Bool} {d : α} {j : Nat} (h : j < l.length) (hp : p (l.getD j d) = true) : (l.drop j).any p = true := by
  rw [List.getD_eq_getElem?_getD, List.getElem?_eq_getElem h, Option.getD_some] at hp
  rw [List.drop_eq_getElem_cons h, List.any_cons, hp, Bool.true_or]
theorem any_end {α : Type} {l : List α} {p : α → Bool} {j : Nat} (h : l.length ≤ j) : (l.drop j).any p = false := by rw [List.drop_of_length_le h]; rfl
/-- The first that the predicate likes. -/
theorem IndexFunc_of (I : XH → Prop) (p : Ty → Bool) (f : FuncId) (fi cp : List AV) (l : List Ty) (ta : Bool) (hl : l.length ≤ 1000000000) (hf : FOk Tryd.prog f)
    (hstep : ∀ j X, j < l.length → I X → ACalls Tryd.prog f (fi ++ [.agg (l.getD j ty0).enc] ++ cp) X (fun av X' => ∃ b, av = .v (.bool b) ∧ b = p (l.getD j ty0) ∧ I X')) (X : XH) (hI : I X) :
    ACalls Tryd.prog 22 [.sl ta l.length (Ty.encs l), .clo (.func f) fi cp] X (fun av X' => ∃ i, av = .v (.int .i64 i) ∧ decide (i ≥ 0) = l.any p ∧ I X') := by
  refine calls_body td_ok Tryd.func22 rfl rfl rfl ?_
  refine AWP_seq ?_
  refine AWP_region ?_
  refine st td_ok rfl rfl rfl rfl (r := .v _) rfl trivial ?_
  refine AOps_nil ?_
  refine qn ?_
  refine AWP_seq ?_
  refine AWP_seq ?_
  refine AWP_region ?_
  refine st td_ok rfl rfl rfl rfl (r := .sl _ _ _) rfl trivial ?_
  refine st td_ok rfl rfl rfl rfl (r := .v _) rfl trivial ?_
  refine st td_ok rfl rfl rfl rfl (r := .v _) rfl trivial ?_
  refine AOps_nil ?_
  refine qn ?_
  refine AWP_block ?_
  refine AWP_for (fun (j : Nat) => [(0, .sl ta l.length (Ty.encs l)), (1, .clo (.func f) fi cp), (7, .v (.int .i64 l.length)), (8, .v (.int .i64 j))]) (fun j X => I X ∧ j ≤ l.length ∧ (l.drop j).any p = l.any p) (fun j => l.length - j) 0 ⟨by (repeat' (first | exact rfl | exact trivial | apply And.intro)), ⟨hI, Nat.zero_le _, rfl⟩⟩ ?_
  rintro j X' ⟨hI', hj, hq⟩
  refine AWP_seq ?_
  refine AWP_region ?_
  refine st td_ok rfl rfl rfl rfl (r := .v _) rfl trivial ?_
  refine AOps_nil ?_
  refine qn ?_
  refine AWP_seq ?_
  refine AWP_cond rfl rfl (fun h0 => ?_) (fun h0 => ?_)
  ·
    refine AWP_skip ?_
    refine qn ?_
    refine AWP_seq ?_
    refine AWP_block ?_
    refine AWP_seq ?_
    have hlt : j < l.length := Int.ofNat_lt.mp (of_decide_eq_true h0)
    have hst := fun X hX => hstep j X hlt hX
    have hgo := any_go (p := p) (d := ty0) hlt
    have hye := any_yes (p := p) (d := ty0) hlt
    obtain ⟨⟨k2, n2, l2⟩, hel⟩ : ∃ t, l.getD j ty0 = t := ⟨_, rfl⟩
    rw [hel] at hst hgo hye
    refine AWP_region ?_
    refine st td_ok rfl rfl rfl rfl (r := .v _) rfl trivial ?_
    refine st td_ok rfl rfl rfl rfl (r := .v _) rfl trivial ?_
    refine AOps_nil ?_
    refine qn ?_
    refine AWP_seq ?_
    refine AWP_region ?_
    refine st td_ok rfl rfl rfl rfl (r := .clo _ _ _) rfl trivial ?_
    refine st td_ok rfl rfl rfl rfl (r := .sl _ _ _) rfl trivial ?_
    refine st td_ok rfl rfl rfl rfl (r := .v _) rfl trivial ?_
    (refine st td_ok rfl rfl rfl rfl (r := .pp _ _) rfl ?_ ?_; · ((repeat' with_reducible apply And.intro) <;> (first | omega | (simp only [Ty.encs_len, Ty.enc_len, cond_true, cond_false, nd, Option.getD_none, Option.getD_some, Int.toNat_natCast, strs_len, nums_len, List.length_append, tds2, tds3, tds4, tds5, tds9, tds12, tds21, tds22, tds23, tds24, tds25, tds30, tds31, tds32, tds33, tds34, tds36, tds43, tds45, tds47, tds57, tds62, tds66, tds69, decide_eq_true_eq, Bool.and_eq_true, Bool.not_eq_true', decide_eq_false_iff_not] at *; omega))))
    (refine st_eq td_ok rfl rfl rfl rfl (r := _) rfl ?_ ((show _ = AV.agg (Ty.mk k2 n2 l2).enc from (Ty.at_lt l j hlt _).trans (by rw [hel]))) ?_; · ((repeat' with_reducible apply And.intro) <;> (simp only [Ty.encs_len, Ty.enc_len, cond_true, cond_false, nd, Option.getD_none, Option.getD_some, Int.toNat_natCast, strs_len, nums_len, List.length_append, tds2, tds3, tds4, tds5, tds9, tds12, tds21, tds22, tds23, tds24, tds25, tds30, tds31, tds32, tds33, tds34, tds36, tds43, tds45, tds47, tds57, tds62, tds66, tds69, decide_eq_true_eq, Bool.and_eq_true, Bool.not_eq_true', decide_eq_false_iff_not] at *; omega)))
    refine st_call rfl rfl rfl rfl rfl rfl rfl hf (ACalls.mono (hst _ hI') ?_)
    rintro av X'' ⟨b, rfl, hb, hI''⟩
    refine AOps_nil ?_
    refine qn ?_
    refine AWP_cond rfl rfl (fun h1 => ?_) (fun h1 => ?_)
    ·
      refine AWP_seq ?_
      refine AWP_region ?_
      refine st td_ok rfl rfl rfl rfl (r := .v _) rfl trivial ?_
      refine st td_ok rfl rfl rfl rfl (r := .v _) rfl trivial ?_
      refine AOps_nil ?_
      refine qn ?_
      refine AWP_ret ?_
      refine qbr ?_
      refine qr ?_
      refine qr ?_
      refine qbr ?_
      refine qr ?_
      refine ⟨_, _, _, _, rfl, trivial, (GS.refl _ _), ?_⟩
      first | show AV.v _ = _ | show AV.tup _ = _ | show AV.sl _ _ _ = _ | show AV.agg _ = _ | skip
      exact ⟨_, rfl, by rw [← hq, hye (by rw [← hb]; simpa using h1)]; exact decide_eq_true (by omega), hI''⟩
    ·
      refine AWP_skip ?_
      refine qbn ?_
      refine qn ?_
      refine AWP_region ?_
      refine st_eq td_ok rfl rfl rfl rfl (r := .v _) rfl trivial (w64 (by omega)) ?_
      refine st td_ok rfl rfl rfl rfl (r := .v _) rfl trivial ?_
      refine AOps_nil ?_
      refine qn ?_
      exact ⟨j + 1, by omega, by (repeat' (first | exact rfl | exact trivial | apply And.intro)), hI'', by omega, by rw [← hq, hgo (by rw [← hb]; simpa using h1)]⟩
  ·
    refine AWP_exit ?_
    refine qx ?_
    refine qx ?_
    refine qbh ?_
    refine qn ?_
    refine AWP_seq ?_
    refine AWP_region ?_
    refine st td_ok rfl rfl rfl rfl (r := .v _) rfl trivial ?_
    refine AOps_nil ?_
    refine qn ?_
    refine AWP_ret ?_
    refine ⟨_, _, _, _, rfl, trivial, (GS.refl _ _), ?_⟩
    first | show AV.v _ = _ | show AV.tup _ = _ | show AV.sl _ _ _ = _ | show AV.agg _ = _ | skip
    exact ⟨_, rfl, by rw [← hq, any_end (by simp only [decide_eq_false_iff_not] at h0; omega)]; rfl, hI'⟩
theorem ContainsFunc_of (I : XH → Prop) (p : Ty → Bool) (f : FuncId) (fi cp : List AV) (l : List Ty) (ta : Bool) (hl : l.length ≤ 1000000000) (hf : FOk Tryd.prog f)
    (hstep : ∀ j X, j < l.length → I X → ACalls Tryd.prog f (fi ++ [.agg (l.getD j ty0).enc] ++ cp) X (fun av X' => ∃ b, av = .v (.bool b) ∧ b = p (l.getD j ty0) ∧ I X')) (X : XH) (hI : I X) :
    ACalls Tryd.prog 17 [.sl ta l.length (Ty.encs l), .clo (.func f) fi cp] X (fun av X' => ∃ b, av = .v (.bool b) ∧ b = l.any p ∧ I X') := by
  refine calls_body td_ok Tryd.func17 rfl rfl rfl ?_
  refine AWP_seq ?_
  refine AWP_region ?_
  refine st td_ok rfl rfl rfl rfl (r := .v _) rfl trivial ?_
  refine AOps_nil ?_
  refine qn ?_
  refine AWP_seq ?_
  refine AWP_region ?_
  refine st td_ok rfl rfl rfl rfl (r := .sl _ _ _) rfl trivial ?_
  refine st td_ok rfl rfl rfl rfl (r := .clo _ _ _) rfl trivial ?_
  refine st_call rfl rfl rfl rfl rfl rfl rfl ⟨_, rfl, rfl, rfl⟩ (ACalls.mono (IndexFunc_of I p f fi cp l ta hl hf hstep X hI) ?_)
  rintro av X'' ⟨i, rfl, hi, hI''⟩
  refine st td_ok rfl rfl rfl rfl (r := .v _) rfl trivial ?_
  refine st td_ok rfl rfl rfl rfl (r := .v _) rfl trivial ?_
  refine AOps_nil ?_
  refine qn ?_
  refine AWP_ret ?_
  refine ⟨_, _, _, _, rfl, trivial, (GS.refl _ _), ?_⟩
  first | show AV.v _ = _ | show AV.tup _ = _ | show AV.sl _ _ _ = _ | show AV.agg _ = _ | skip
  exact ⟨_, rfl, hi, hI''⟩

def Dat.vars : Dat → Int | .mk _ n _ => n
def Dat.name : Dat → ByteArray | .mk n _ _ => n
/-- What a type's head must be. -/
def headV (data : List Dat) (vars k n : Int) (len : Nat) : Bool :=
  if k = 1 ∨ k = 2 ∨ k = 3 then decide (n = 0 ∧ len = 0)
  else if k = 4 then decide (0 ≤ n ∧ n < vars ∧ len = 0)
  else if k = 5 then decide (0 ≤ n ∧ n < data.length ∧ (len : Int) = (data.getD n.toNat dat0).vars)
  else if k = 6 then decide (n = 0 ∧ 2 ≤ len ∧ len ≤ 6)
  else if k = 7 ∨ k = 8 then decide (n = 0 ∧ len = 1)
  else if k = 9 then decide (n = 0 ∧ 1 ≤ len ∧ len ≤ 7)
  else false
mutual
def validT (data : List Dat) (vars : Int) : Ty → Bool
  | .mk k n l => headV data vars k n l.length && validL data vars l
def validL (data : List Dat) (vars : Int) : List Ty → Bool
  | [] => true
  | t :: l => validT data vars t && validL data vars l
end
theorem validL_all (data : List Dat) (vars : Int) : ∀ l, validL data vars l = l.all (validT data vars)
  | [] => rfl
  | t :: l => by simp only [validL, List.all_cons, validL_all data vars l]
theorem validL_any (data : List Dat) (vars : Int) (l : List Ty) : (!(l.any fun t => !(validT data vars t))) = validL data vars l := by
  rw [validL_all]
  induction l with
  | nil => rfl
  | cons t l ih => rw [List.any_cons, List.all_cons, ← ih]; cases validT data vars t <;> simp
end Go.Proofs.YtgnfjahkhhkmoaaDoor.V
