import Derived.Test.YtgnfjahkhhkmoaaDoorVTab
import Derived.Test.YtgnfjahkhhkmoaaDoorVCall
import Derived.KernelRfl
namespace Go.Proofs.YtgnfjahkhhkmoaaDoor.V
open Go
set_option linter.unusedSimpArgs false
set_option linter.unusedVariables false

/-! Plain facts that many walks use. -/
theorem bif_t {a b : Bool} (h : (bif a then b else false) = true) : a = true ∧ b = true := by cases a <;> simp_all
theorem or_no {a b : Bool} (h : (bif a then true else b) = false) : a = false ∧ b = false := by cases a <;> simp_all
theorem guard_no {b : Bool} (h : (bif false then b else !b) = true) : b = false := by cases b <;> simp_all
theorem guard_yes {b : Bool} (h : (bif true then b else !b) = true) : b = true := by cases b <;> simp_all
theorem all_go {α : Type} {l : List α} {p : α → Bool} {d : α} {j : Nat} (h : j < l.length) (hp : p (l.getD j d) = true) : (l.drop j).all p = (l.drop (j + 1)).all p := by
  rw [List.getD_eq_getElem?_getD, List.getElem?_eq_getElem h, Option.getD_some] at hp
  rw [List.drop_eq_getElem_cons h, List.all_cons, hp, Bool.true_and]
theorem all_no {α : Type} {l : List α} {p : α → Bool} {d : α} {j : Nat} (h : j < l.length) (hp : p (l.getD j d) = false) : (l.drop j).all p = false := by
  rw [List.getD_eq_getElem?_getD, List.getElem?_eq_getElem h, Option.getD_some] at hp
  rw [List.drop_eq_getElem_cons h, List.all_cons, hp, Bool.false_and]
theorem all_end {α : Type} {l : List α} {p : α → Bool} {j : Nat} (h : l.length ≤ j) : (l.drop j).all p = true := by rw [List.drop_of_length_le h]; rfl
theorem all_take {α : Type} {l : List α} {p : α → Bool} {d : α} {j : Nat} (h : j < l.length) : (l.take (j + 1)).all p = ((l.take j).all p && p (l.getD j d)) := by
  rw [List.getD_eq_getElem?_getD, List.getElem?_eq_getElem h, List.take_succ_eq_append_getElem h, List.all_append]
  simp
theorem all_take_no {α : Type} {l : List α} {p : α → Bool} : ∀ {i j : Nat}, i ≤ j → (l.take i).all p = false → (l.take j).all p = false := by
  intro i j hij h
  rw [List.all_eq_false] at h ⊢
  obtain ⟨x, hx, hp⟩ := h
  exact ⟨x, (List.take_subset_take_left l hij) hx, hp⟩
theorem getD_mem {α : Type} {l : List α} {d : α} {j : Nat} (h : j < l.length) : l.getD j d ∈ l := by
  rw [List.getD_eq_getElem?_getD, List.getElem?_eq_getElem h]; exact List.getElem_mem h
theorem getD_app {α : Type} {l m : List α} {d : α} {i : Nat} (h : i < l.length) : (l ++ m).getD i d = l.getD i d := by
  rw [List.getD_eq_getElem?_getD, List.getD_eq_getElem?_getD, List.getElem?_append_left h]
theorem getD_set {α : Type} {l : List α} {x d : α} {i j : Nat} (h : i < l.length) : (l.set i x).getD j d = if i = j then x else l.getD j d := by
  rw [List.getD_eq_getElem?_getD, List.getD_eq_getElem?_getD]
  by_cases e : i = j
  · subst e; rw [if_pos rfl, List.getElem?_set_self h]; rfl
  · rw [if_neg e, List.getElem?_set_ne e]
theorem take_get {α : Type} {l : List α} {d : α} {j : Nat} (h : j < l.length) : l.take (j + 1) = l.take j ++ [l.getD j d] := by
  rw [List.take_succ_eq_append_getElem h, List.getD_eq_getElem?_getD, List.getElem?_eq_getElem h]; rfl
theorem strs_lt (xs : List ByteArray) (j : Nat) (h : j < xs.length) (z : List Value) : cellAt (strs xs) (j * 1) z = .v (.string (xs.getD j ⟨#[]⟩)) := by
  unfold cellAt strs
  simp only [List.getD_eq_getElem?_getD, List.getElem?_map, Nat.mul_one]
  rw [List.getElem?_eq_getElem h]; rfl
theorem strs_app1 (xs : List ByteArray) (x : ByteArray) : strs xs ++ [.v (.string x)] = strs (xs ++ [x]) := by simp [strs]

/-! The trees of programs, as data. -/
inductive TE where
  | mk (kind : Int) (name : ByteArray) (args : List TE)
mutual
inductive Ex where
  | mk (op : Int) (name : ByteArray) (num : Int) (names : List ByteArray) (kids : List Ex) (alts : List Al)
inductive Al where
  | mk (con : ByteArray) (vars : List ByteArray) (body : Ex)
end
inductive CE where
  | mk (name : ByteArray) (args : List TE)
inductive DE where
  | mk (name : ByteArray) (vars : List ByteArray) (cons : List CE)
inductive FE where
  | mk (name : ByteArray) (params : List ByteArray) (body : Ex)
inductive Pg where
  | mk (data : List DE) (funs : List FE)
def strA (l : List ByteArray) : AV := .sl false l.length (strs l)
mutual
def TE.enc : TE → List AV
  | .mk k n l => [.v (.int .i64 k), .v (.string n), .sl false l.length (TE.encs l)]
def TE.encs : List TE → List AV
  | [] => []
  | t :: l => t.enc ++ TE.encs l
end
mutual
def Ex.enc : Ex → List AV
  | .mk op nm nu ns ks as_ => [.v (.int .i64 op), .v (.string nm), .v (.int .i64 nu), strA ns, .sl false ks.length (Ex.encs ks), .sl false as_.length (Al.encs as_)]
def Ex.encs : List Ex → List AV
  | [] => []
  | t :: l => t.enc ++ Ex.encs l
def Al.enc : Al → List AV
  | .mk c vs b => [.v (.string c), strA vs] ++ b.enc
def Al.encs : List Al → List AV
  | [] => []
  | t :: l => t.enc ++ Al.encs l
end
def CE.enc : CE → List AV
  | .mk n l => [.v (.string n), .sl false l.length (TE.encs l)]
def DE.enc : DE → List AV
  | .mk n vs cs => [.v (.string n), strA vs, .sl false cs.length (cs.flatMap CE.enc)]
def FE.enc : FE → List AV
  | .mk n ps b => [.v (.string n), strA ps] ++ b.enc
def Pg.enc : Pg → List AV
  | .mk d f => [.sl false d.length (d.flatMap DE.enc), .sl false f.length (f.flatMap FE.enc)]
theorem TE.encs_flat : ∀ l : List TE, TE.encs l = l.flatMap TE.enc
  | [] => by simp [TE.encs]
  | t :: l => by simp [TE.encs, TE.encs_flat l]
theorem Ex.encs_flat : ∀ l : List Ex, Ex.encs l = l.flatMap Ex.enc
  | [] => by simp [Ex.encs]
  | t :: l => by simp [Ex.encs, Ex.encs_flat l]
theorem Al.encs_flat : ∀ l : List Al, Al.encs l = l.flatMap Al.enc
  | [] => by simp [Al.encs]
  | t :: l => by simp [Al.encs, Al.encs_flat l]
theorem TE.enc_len : ∀ t : TE, t.enc.length = 3
  | .mk _ _ _ => by simp [TE.enc]
theorem Ex.enc_len : ∀ t : Ex, t.enc.length = 6
  | .mk _ _ _ _ _ _ => by simp [Ex.enc]
theorem Al.enc_len : ∀ t : Al, t.enc.length = 8
  | .mk _ _ b => by simp [Al.enc, Ex.enc_len]
theorem CE.enc_len : ∀ t : CE, t.enc.length = 2
  | .mk _ _ => rfl
theorem DE.enc_len : ∀ t : DE, t.enc.length = 3
  | .mk _ _ _ => rfl
theorem FE.enc_len : ∀ t : FE, t.enc.length = 8
  | .mk _ _ b => by simp [FE.enc, Ex.enc_len]
theorem Pg.enc_len : ∀ t : Pg, t.enc.length = 2
  | .mk _ _ => rfl
theorem TE.encs_len (l : List TE) : (TE.encs l).length = l.length * 3 := by rw [TE.encs_flat]; exact flat_len _ 3 TE.enc_len l
theorem Ex.encs_len (l : List Ex) : (Ex.encs l).length = l.length * 6 := by rw [Ex.encs_flat]; exact flat_len _ 6 Ex.enc_len l
theorem Al.encs_len (l : List Al) : (Al.encs l).length = l.length * 8 := by rw [Al.encs_flat]; exact flat_len _ 8 Al.enc_len l
theorem CE.encs_len (l : List CE) : (l.flatMap CE.enc).length = l.length * 2 := flat_len _ 2 CE.enc_len l
theorem DE.encs_len (l : List DE) : (l.flatMap DE.enc).length = l.length * 3 := flat_len _ 3 DE.enc_len l
theorem FE.encs_len (l : List FE) : (l.flatMap FE.enc).length = l.length * 8 := flat_len _ 8 FE.enc_len l
def te0 : TE := .mk 0 ⟨#[]⟩ []
def ex0 : Ex := .mk 0 ⟨#[]⟩ 0 [] [] []
def al0 : Al := .mk ⟨#[]⟩ [] ex0
def ce0 : CE := .mk ⟨#[]⟩ []
def de0 : DE := .mk ⟨#[]⟩ [] []
def fe0 : FE := .mk ⟨#[]⟩ [] ex0
theorem TE.at_lt (l : List TE) (j : Nat) (h : j < l.length) (z : List Value) : AV.agg (cellsAt (TE.encs l) (j * 3) 3 z) = AV.agg (l.getD j te0).enc := by rw [TE.encs_flat]; exact congrArg AV.agg (flat_at_lt _ te0 TE.enc_len l j h)
theorem Ex.at_lt (l : List Ex) (j : Nat) (h : j < l.length) (z : List Value) : AV.agg (cellsAt (Ex.encs l) (j * 6) 6 z) = AV.agg (l.getD j ex0).enc := by rw [Ex.encs_flat]; exact congrArg AV.agg (flat_at_lt _ ex0 Ex.enc_len l j h)
theorem Al.at_lt (l : List Al) (j : Nat) (h : j < l.length) (z : List Value) : AV.agg (cellsAt (Al.encs l) (j * 8) 8 z) = AV.agg (l.getD j al0).enc := by rw [Al.encs_flat]; exact congrArg AV.agg (flat_at_lt _ al0 Al.enc_len l j h)
theorem CE.at_lt (l : List CE) (j : Nat) (h : j < l.length) (z : List Value) : AV.agg (cellsAt (l.flatMap CE.enc) (j * 2) 2 z) = AV.agg (l.getD j ce0).enc := congrArg AV.agg (flat_at_lt _ ce0 CE.enc_len l j h)
theorem DE.at_lt (l : List DE) (j : Nat) (h : j < l.length) (z : List Value) : AV.agg (cellsAt (l.flatMap DE.enc) (j * 3) 3 z) = AV.agg (l.getD j de0).enc := congrArg AV.agg (flat_at_lt _ de0 DE.enc_len l j h)
theorem FE.at_lt (l : List FE) (j : Nat) (h : j < l.length) (z : List Value) : AV.agg (cellsAt (l.flatMap FE.enc) (j * 8) 8 z) = AV.agg (l.getD j fe0).enc := congrArg AV.agg (flat_at_lt _ fe0 FE.enc_len l j h)
mutual
def TE.size : TE → Nat
  | .mk _ _ l => 1 + TE.sizes l
def TE.sizes : List TE → Nat
  | [] => 0
  | t :: l => t.size + TE.sizes l
end
mutual
def Ex.size : Ex → Nat
  | .mk _ _ _ _ ks as_ => 1 + (Ex.sizes ks + Al.sizes as_)
def Ex.sizes : List Ex → Nat
  | [] => 0
  | t :: l => t.size + Ex.sizes l
def Al.sizes : List Al → Nat
  | [] => 0
  | .mk _ _ b :: l => b.size + Al.sizes l
end
def Al.body : Al → Ex | .mk _ _ b => b
theorem TE.size_pos : ∀ t : TE, 1 ≤ t.size
  | .mk _ _ _ => by simp only [TE.size]; omega
theorem Ex.size_pos : ∀ t : Ex, 1 ≤ t.size
  | .mk _ _ _ _ _ _ => by simp only [Ex.size]; omega
theorem TE.sizes_get : ∀ (l : List TE) (j : Nat), j < l.length → (l.getD j te0).size ≤ TE.sizes l
  | [], j, h => absurd h (by simp)
  | t :: l, 0, h => by simp only [TE.sizes, List.getD_cons_zero]; omega
  | t :: l, j + 1, h => by
    have := TE.sizes_get l j (by simpa using h)
    simp only [TE.sizes, List.getD_cons_succ]; omega
theorem Ex.sizes_get : ∀ (l : List Ex) (j : Nat), j < l.length → (l.getD j ex0).size ≤ Ex.sizes l
  | [], j, h => absurd h (by simp)
  | t :: l, 0, h => by simp only [Ex.sizes, List.getD_cons_zero]; omega
  | t :: l, j + 1, h => by
    have := Ex.sizes_get l j (by simpa using h)
    simp only [Ex.sizes, List.getD_cons_succ]; omega
theorem Al.sizes_get : ∀ (l : List Al) (j : Nat), j < l.length → (l.getD j al0).body.size ≤ Al.sizes l
  | [], j, h => absurd h (by simp)
  | .mk _ _ b :: l, 0, h => by simp only [Al.sizes, List.getD_cons_zero, Al.body]; omega
  | .mk _ _ b :: l, j + 1, h => by
    have := Al.sizes_get l j (by simpa using h)
    simp only [Al.sizes, List.getD_cons_succ]; omega
theorem TE.sizes_len : ∀ l : List TE, l.length ≤ TE.sizes l
  | [] => by simp
  | t :: l => by have := TE.sizes_len l; have := t.size_pos; simp only [TE.sizes, List.length_cons]; omega
theorem Ex.sizes_len : ∀ l : List Ex, l.length ≤ Ex.sizes l
  | [] => by simp
  | t :: l => by have := Ex.sizes_len l; have := t.size_pos; simp only [Ex.sizes, List.length_cons]; omega
theorem Al.sizes_len : ∀ l : List Al, l.length ≤ Al.sizes l
  | [] => by simp
  | .mk _ _ b :: l => by have := Al.sizes_len l; have := b.size_pos; simp only [Al.sizes, List.length_cons]; omega
end Go.Proofs.YtgnfjahkhhkmoaaDoor.V
