import Derived.Test.YtgnfjahkhhkmoaaDoorC4
namespace Go.Proofs.YtgnfjahkhhkmoaaDoor.V
open Go
set_option linter.unusedSimpArgs false
set_option linter.unusedVariables false
set_option maxRecDepth 20000

def mkS (l : List UInt8) : ByteArray := ⟨l.toArray⟩
theorem mkS_app (a b : List UInt8) : mkS a ++ mkS b = mkS (a ++ b) := by
  apply ByteArray.ext
  simp [mkS, ByteArray.data_append]
theorem mkS_size (a : List UInt8) : (mkS a).size = a.length := by simp [mkS, ByteArray.size]
theorem mkS_toList (a : List UInt8) : (mkS a).data.toList = a := by simp [mkS]
theorem mkS_of (b : ByteArray) : mkS b.data.toList = b := rfl
def paren (ss : List (List UInt8)) : List UInt8 := [40] ++ Lib.join ss [44, 32] ++ [41]
def nameL (d : Dat) : List UInt8 := d.name.data.toList
def fmtK (data : List Dat) (k n : Int) (ss : List (List UInt8)) : List UInt8 :=
  if k = 1 then [105, 110, 116] else if k = 2 then [98, 111, 111, 108] else if k = 3 then [117, 110, 105, 116]
  else if k = 4 then [97] ++ Lib.itoa n
  else if k = 5 then (if ss.length = 0 then nameL (data.getD n.toNat dat0) else nameL (data.getD n.toNat dat0) ++ paren ss)
  else if k = 7 then [97, 114, 114, 97, 121] ++ paren ss
  else if k = 8 then [114, 101, 102] ++ paren ss
  else if k = 9 then [102, 110] ++ paren (ss.take (ss.length - 1)) ++ [32, 45, 62, 32] ++ ss.getD (ss.length - 1) []
  else paren ss
mutual
def fmtT (data : List Dat) : Ty → List UInt8
  | .mk k n l => fmtK data k n (fmtL data l)
def fmtL (data : List Dat) : List Ty → List (List UInt8)
  | [] => []
  | t :: l => fmtT data t :: fmtL data l
end
theorem fmtL_map (data : List Dat) : ∀ l, fmtL data l = l.map (fmtT data)
  | [] => rfl
  | t :: l => by simp only [fmtL, List.map_cons, fmtL_map data l]
def jl : List (List UInt8) → Nat
  | [] => 0
  | s :: r => s.length + 2 + jl r
theorem jl_lens : ∀ ss, jl ss = Lib.lens ss + 2 * ss.length
  | [] => rfl
  | s :: r => by
    have := jl_lens r
    simp only [jl, List.length_cons]
    have e : Lib.lens (s :: r) = s.length + Lib.lens r := by simp [Lib.lens]
    rw [e]; omega
theorem join_le (ss : List (List UInt8)) : (Lib.join ss [44, 32]).length ≤ jl ss := by
  cases ss with
  | nil => simp [Lib.join_nil, jl]
  | cons s r =>
    rw [Lib.join_length, jl_lens]
    simp only [List.length_cons, List.length_nil]; omega
theorem paren_le (ss : List (List UInt8)) : (paren ss).length ≤ jl ss + 2 := by
  have := join_le ss
  simp only [paren, List.length_append, List.length_cons, List.length_nil]; omega
theorem jl_take : ∀ (ss : List (List UInt8)) (m : Nat), m < ss.length → jl (ss.take m) + ((ss.getD m []).length + 2) ≤ jl ss
  | [], m, h => absurd h (by simp)
  | s :: r, 0, h => by simp only [List.take_zero, jl, List.getD_cons_zero]; omega
  | s :: r, m + 1, h => by
    have := jl_take r m (by simpa using h)
    simp only [List.take_succ_cons, jl, List.getD_cons_succ]; omega
theorem jl_take_le : ∀ (ss : List (List UInt8)) (m : Nat), jl (ss.take m) ≤ jl ss
  | [], m => by simp
  | s :: r, 0 => by simp [jl]
  | s :: r, m + 1 => by
    have := jl_take_le r m
    simp only [List.take_succ_cons, jl]; omega
/-- Names are short. -/
def namesOk (data : List Dat) : Prop := ∀ d, d ∈ data → d.name.size ≤ 40
theorem itoa_short {n : Int} (h0 : 0 ≤ n) (h1 : n < 101) : (Lib.itoa n).length ≤ 101 := by
  have e : n = ((n.toNat : Nat) : Int) := by omega
  rw [e]
  have := dec_len n.toNat
  unfold Lib.itoa
  rw [if_neg (by omega)]
  have e2 : ((n.toNat : Nat) : Int).toNat = n.toNat := by omega
  rw [e2]; omega
theorem fmtK_le {data : List Dat} (hd : namesOk data) {k n : Int} {ss : List (List UInt8)} (hh : headV data 101 k n ss.length = true) : (fmtK data k n ss).length + 2 ≤ 200 + jl ss := by
  have hp := paren_le ss
  have hj := join_le ss
  unfold fmtK
  split
  · simp only [List.length_cons, List.length_nil]; omega
  split
  · simp only [List.length_cons, List.length_nil]; omega
  split
  · simp only [List.length_cons, List.length_nil]; omega
  split
  · rename_i h1 h2 h3 h4
    unfold headV at hh
    rw [if_neg (by omega), if_pos h4] at hh
    simp only [decide_eq_true_eq] at hh
    have := itoa_short hh.1 hh.2.1
    simp only [List.length_append, List.length_cons, List.length_nil]; omega
  split
  · rename_i h1 h2 h3 h4 h5
    unfold headV at hh
    rw [if_neg (by omega), if_neg h4, if_pos h5] at hh
    simp only [decide_eq_true_eq] at hh
    have hn : (nameL (data.getD n.toNat dat0)).length ≤ 40 := hd _ (getD_mem (by omega))
    split
    · omega
    · simp only [List.length_append]; omega
  split
  · simp only [List.length_append, List.length_cons, List.length_nil]; omega
  split
  · simp only [List.length_append, List.length_cons, List.length_nil]; omega
  split
  · rename_i h1 h2 h3 h4 h5 h6 h7 h8
    unfold headV at hh
    rw [if_neg (by omega), if_neg h4, if_neg h5, if_neg (by omega), if_neg (by omega), if_pos h8] at hh
    simp only [decide_eq_true_eq] at hh
    have h9 := jl_take ss (ss.length - 1) (by omega)
    have h10 := paren_le (ss.take (ss.length - 1))
    simp only [List.length_append, List.length_cons, List.length_nil]; omega
  · omega
theorem fmtL_len (data : List Dat) (l : List Ty) : (fmtL data l).length = l.length := by rw [fmtL_map, List.length_map]
mutual
theorem fmtT_le {data : List Dat} (hd : namesOk data) : ∀ (t : Ty), validT data 101 t = true → (fmtT data t).length + 2 ≤ 200 * t.size
  | .mk k n l, h => by
    simp only [validT, Bool.and_eq_true] at h
    have h1 := fmtL_le hd l h.2
    have h2 := fmtK_le (data := data) hd (k := k) (n := n) (ss := fmtL data l) (by rw [fmtL_len]; exact h.1)
    simp only [fmtT, Ty.size]; omega
theorem fmtL_le {data : List Dat} (hd : namesOk data) : ∀ (l : List Ty), validL data 101 l = true → jl (fmtL data l) ≤ 200 * Ty.sizes l
  | [], h => by simp [fmtL, jl]
  | t :: l, h => by
    simp only [validL, Bool.and_eq_true] at h
    have h1 := fmtT_le hd t h.1
    have h2 := fmtL_le hd l h.2
    simp only [fmtL, jl, Ty.sizes]; omega
end
end Go.Proofs.YtgnfjahkhhkmoaaDoor.V
