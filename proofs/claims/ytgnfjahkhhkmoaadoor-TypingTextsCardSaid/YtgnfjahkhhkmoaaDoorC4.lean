import Derived.Test.YtgnfjahkhhkmoaaDoorC3
import Derived.Test.YtgnfjahkhhkmoaaDoorS0
namespace Go.Proofs.YtgnfjahkhhkmoaaDoor.V
open Go
set_option linter.unusedSimpArgs false
set_option linter.unusedVariables false
set_option maxRecDepth 20000

theorem decDigits_step (m : Nat) : Lib.decDigits m = (if 0 < m / 10 then Lib.decDigits (m / 10) else []) ++ [UInt8.ofNat (48 + m % 10)] := by
  by_cases h : m < 10
  · rw [Lib.decDigits_one h, if_neg (by omega), show m % 10 = m by omega]; rfl
  · rw [if_pos (by omega)]
    conv => lhs; rw [Lib.decDigits, dif_neg h]
def restD (m : Nat) : List UInt8 := if 0 < m then Lib.decDigits m else []
theorem dec_len (n : Nat) : (Lib.decDigits n).length ≤ n + 1 := by
  induction n using Nat.strongRecOn with
  | _ n ih =>
    rw [decDigits_step, List.length_append]
    split
    · have := ih (n / 10) (by omega)
      simp only [List.length_cons, List.length_nil]; omega
    · simp
theorem itoaS_nat (n : Nat) : itoaS (n : Int) = ⟨(Lib.decDigits n).toArray⟩ := by
  unfold itoaS Lib.itoa
  rw [if_neg (by omega)]
  rfl
theorem tmod10 (n : Nat) : ((n : Int)).tmod 10 = ((n % 10 : Nat) : Int) := by
  rw [Int.tmod_eq_emod_of_nonneg (by omega)]; omega
theorem tdiv10 (n : Nat) : ((n : Int)).tdiv 10 = ((n / 10 : Nat) : Int) := by
  rw [Int.tdiv_eq_ediv_of_nonneg (by omega)]; omega
theorem wdiv10 (n : Nat) (h : n ≤ 1000000000) : IntKind.i64.wrap ((n : Int).tdiv 10) = ((n / 10 : Nat) : Int) := by
  rw [tdiv10]; exact IntWalk.i64_in _ (by omega)
theorem u8dig (n : Nat) : IntKind.u8.wrap (48 + ((n % 10 : Nat) : Int)) = ((48 + n % 10 : Nat) : Int) := by
  rw [show IntKind.u8.wrap (48 + ((n % 10 : Nat) : Int)) = (48 + ((n % 10 : Nat) : Int)) % 256 from rfl]; omega
theorem number_c (n : Nat) (hn : n ≤ 1000000000) : PCalls Tryd.prog 21 [.v (.int .i64 n)] (.v (.string (itoaS n))) := by
  refine calls_body td_ok Tryd.func21 rfl rfl rfl ?_
  refine AWP_seq ?_
  refine AWP_region ?_
  refine st td_ok rfl rfl rfl rfl (r := .v _) rfl trivial ?_
  refine AOps_nil ?_
  refine qn ?_
  refine AWP_seq ?_
  refine AWP_region ?_
  refine st td_ok rfl rfl rfl rfl (r := .v _) rfl trivial ?_
  (refine st_eq td_ok rfl rfl rfl rfl (r := _) rfl ?_ ((congrArg (fun z => AV.v (.int .i64 z)) (tmod10 n))) ?_; · ((repeat' with_reducible apply And.intro) <;> omega))
  refine st_eq td_ok rfl rfl rfl rfl (r := .v _) rfl trivial (w64 (by omega)) ?_
  refine st_eq td_ok rfl rfl rfl rfl (r := _) rfl trivial ((congrArg (fun z => AV.v (.int .u8 z)) (u8dig n))) ?_
  refine st_lit td_ok rfl rfl rfl rfl rfl rfl rfl rfl rfl (by decide)  rfl (by ((repeat' with_reducible apply And.intro) <;> (first | with_reducible exact trivial | exact rfl)))  ?_
  refine st_eq td_ok rfl rfl rfl rfl (r := _) rfl trivial ((show _ = AV.v (.string ⟨#[UInt8.ofNat (48 + n % 10)]⟩) from rfl)) ?_
  refine st td_ok rfl rfl rfl rfl (r := .v _) rfl trivial ?_
  refine AOps_nil ?_
  refine qn ?_
  refine AWP_seq ?_
  refine AWP_seq ?_
  refine AWP_region ?_
  refine st td_ok rfl rfl rfl rfl (r := .v _) rfl trivial ?_
  (refine st_eq td_ok rfl rfl rfl rfl (r := _) rfl ?_ ((congrArg (fun z => AV.v (.int .i64 z)) (wdiv10 n hn))) ?_; · ((repeat' with_reducible apply And.intro) <;> omega))
  refine st td_ok rfl rfl rfl rfl (r := .v _) rfl trivial ?_
  refine AOps_nil ?_
  refine qn ?_
  refine AWP_block ?_
  refine AWP_for (fun (x : Nat × ByteArray) => [(0, .v (.int .i64 x.1)), (3, .v (.string x.2))]) (fun x X => x.1 ≤ 1000000000 ∧ restD x.1 ++ x.2.data.toList = Lib.decDigits n) (fun x => x.1) (n / 10, ⟨#[UInt8.ofNat (48 + n % 10)]⟩) ⟨by (repeat' (first | exact rfl | exact trivial | apply And.intro)), ⟨by dsimp only; omega, by dsimp only; rw [decDigits_step n]; rfl⟩⟩ ?_
  rintro x X ⟨hx1, hx2⟩
  refine AWP_seq ?_
  refine AWP_seq ?_
  refine AWP_region ?_
  refine st td_ok rfl rfl rfl rfl (r := .v _) rfl trivial ?_
  refine st td_ok rfl rfl rfl rfl (r := .v _) rfl trivial ?_
  refine AOps_nil ?_
  refine qn ?_
  refine AWP_cond rfl rfl (fun h0 => ?_) (fun h0 => ?_)
  ·
    have hm : 0 < x.1 := by have := of_decide_eq_true h0; omega
    have hsz : x.2.size ≤ 1000000001 := by
      have h1 := dec_len n
      rw [← hx2, List.length_append] at h1
      have h2 : x.2.size = x.2.data.toList.length := rfl
      omega
    refine AWP_skip ?_
    refine qn ?_
    refine AWP_seq ?_
    refine AWP_block ?_
    refine AWP_region ?_
    refine st td_ok rfl rfl rfl rfl (r := .v _) rfl trivial ?_
    (refine st_eq td_ok rfl rfl rfl rfl (r := _) rfl ?_ ((congrArg (fun z => AV.v (.int .i64 z)) (tmod10 x.1))) ?_; · ((repeat' with_reducible apply And.intro) <;> omega))
    refine st_eq td_ok rfl rfl rfl rfl (r := .v _) rfl trivial (w64 (by omega)) ?_
    refine st_eq td_ok rfl rfl rfl rfl (r := _) rfl trivial ((congrArg (fun z => AV.v (.int .u8 z)) (u8dig x.1))) ?_
    refine st_lit td_ok rfl rfl rfl rfl rfl rfl rfl rfl rfl (by decide)  rfl (by ((repeat' with_reducible apply And.intro) <;> (first | with_reducible exact trivial | exact rfl)))  ?_
    refine st_eq td_ok rfl rfl rfl rfl (r := _) rfl trivial ((show _ = AV.v (.string ⟨#[UInt8.ofNat (48 + x.1 % 10)]⟩) from rfl)) ?_
    refine st td_ok rfl rfl rfl rfl (r := .v _) rfl trivial ?_
    (refine st td_ok rfl rfl rfl rfl (r := .v _) rfl ?_ ?_; · show (1 : Nat) + x.2.size ≤ 9223372036854775807; omega)
    refine st td_ok rfl rfl rfl rfl (r := .v _) rfl trivial ?_
    refine AOps_nil ?_
    refine qbn ?_
    refine qn ?_
    refine AWP_region ?_
    refine st td_ok rfl rfl rfl rfl (r := .v _) rfl trivial ?_
    (refine st_eq td_ok rfl rfl rfl rfl (r := _) rfl ?_ ((congrArg (fun z => AV.v (.int .i64 z)) (wdiv10 x.1 hx1))) ?_; · ((repeat' with_reducible apply And.intro) <;> omega))
    refine st td_ok rfl rfl rfl rfl (r := .v _) rfl trivial ?_
    refine AOps_nil ?_
    refine qn ?_
    exact ⟨(x.1 / 10, ⟨#[UInt8.ofNat (48 + x.1 % 10)]⟩ ++ x.2), by dsimp only; omega, by (repeat' (first | exact rfl | exact trivial | apply And.intro)), by dsimp only; omega, by dsimp only; rw [← hx2]; rw [show restD x.1 = Lib.decDigits x.1 from if_pos hm, decDigits_step x.1, List.append_assoc]; simp [restD, ByteArray.data_append]⟩
  ·
    refine AWP_exit ?_
    refine qx ?_
    refine qx ?_
    refine qbh ?_
    refine qn ?_
    refine AWP_seq ?_
    refine AWP_region ?_
    refine st td_ok rfl rfl rfl rfl (r := .v _) rfl trivial ?_
    refine st td_ok rfl rfl rfl rfl (r := .v _) rfl trivial ?_
    refine AOps_nil ?_
    refine qn ?_
    refine AWP_ret ?_
    refine ⟨_, _, _, _, rfl, trivial, GS.forget _ _, ?_⟩
    first | show AV.v _ = _ | show AV.tup _ = _ | show AV.sl _ _ _ = _ | show AV.agg _ = _ | skip
    have e : x.1 = 0 := by simp only [decide_eq_false_iff_not] at h0; omega
    rw [e] at hx2
    rw [itoaS_nat, ← hx2]; rfl
end Go.Proofs.YtgnfjahkhhkmoaaDoor.V
