/- The evaluator's memory and the model's: what holds between them. No condition. -/
import Derived.Test.YtmbofpmjckjceaaDoorE0
namespace Go.Proofs.YtmbofpmjckjceaaDoor.E
open Go Go.RowKit
set_option linter.unusedVariables false
set_option linter.unusedSimpArgs false
namespace Tr
variable {α : Type}
theorem get_setF_same : ∀ (f : Nat) (t : Tr α) (n : Nat) (x : α), n < f → (setF f t n x).get n = some x
  | 0, _, _, _, h => by omega
  | f + 1, .nil, n, x, h => by
    unfold setF
    by_cases h0 : n = 0
    · simp [h0, get]
    · by_cases h1 : n % 2 = 1
      · simp only [h0, h1, if_true, if_false, get]; exact get_setF_same f _ _ x (by omega)
      · simp only [h0, h1, if_false, get]; exact get_setF_same f _ _ x (by omega)
  | f + 1, .node v l r, n, x, h => by
    unfold setF
    by_cases h0 : n = 0
    · simp [h0, get]
    · by_cases h1 : n % 2 = 1
      · simp only [h0, h1, if_true, if_false, get]; exact get_setF_same f _ _ x (by omega)
      · simp only [h0, h1, if_false, get]; exact get_setF_same f _ _ x (by omega)
theorem get_setF_ne : ∀ (f : Nat) (t : Tr α) (n m : Nat) (x : α), n ≠ m → (setF f t n x).get m = t.get m
  | 0, _, _, _, _, h => rfl
  | f + 1, .nil, n, m, x, h => by
    unfold setF
    by_cases h0 : n = 0
    · have : m ≠ 0 := by omega
      simp only [h0, if_true, get, this, if_false]; split <;> rfl
    · by_cases h1 : n % 2 = 1
      · simp only [h0, h1, if_true, if_false, get]
        by_cases m0 : m = 0
        · simp [m0]
        · by_cases m1 : m % 2 = 1
          · simp only [m0, m1, if_true, if_false]; exact get_setF_ne f .nil _ _ x (by omega)
          · simp only [m0, m1, if_false]
      · simp only [h0, h1, if_false, get]
        by_cases m0 : m = 0
        · simp [m0]
        · by_cases m1 : m % 2 = 1
          · simp only [m0, m1, if_true, if_false]
          · simp only [m0, m1, if_false]; exact get_setF_ne f .nil _ _ x (by omega)
  | f + 1, .node v l r, n, m, x, h => by
    unfold setF
    by_cases h0 : n = 0
    · have : m ≠ 0 := by omega
      simp only [h0, if_true, get, this, if_false]
    · by_cases h1 : n % 2 = 1
      · simp only [h0, h1, if_true, if_false, get]
        by_cases m0 : m = 0
        · simp [m0]
        · by_cases m1 : m % 2 = 1
          · simp only [m0, m1, if_true, if_false]; exact get_setF_ne f l _ _ x (by omega)
          · simp only [m0, m1, if_false]
      · simp only [h0, h1, if_false, get]
        by_cases m0 : m = 0
        · simp [m0]
        · by_cases m1 : m % 2 = 1
          · simp only [m0, m1, if_true, if_false]
          · simp only [m0, m1, if_false]; exact get_setF_ne f r _ _ x (by omega)
theorem get_set (t : Tr α) (n m : Nat) (x : α) : (t.set n x).get m = if n = m then some x else t.get m := by
  unfold set
  split
  · rename_i h; subst h; exact get_setF_same _ _ _ _ (by omega)
  · rename_i h; exact get_setF_ne _ _ _ _ _ h
theorem get_set_same (t : Tr α) (n : Nat) (x : α) : (t.set n x).get n = some x := by rw [get_set, if_pos rfl]
theorem get_set_ne (t : Tr α) {n m : Nat} (x : α) (h : n ≠ m) : (t.set n x).get m = t.get m := by rw [get_set, if_neg h]
end Tr
/-- Where a row of ours lies in the model's memory. -/
structure MA where
  at_ : Addr
  lim : Nat
  e : Nat
abbrev Mp := Nat → Option MA
def MA.addr (m : MA) (off : Nat) : Addr := ⟨m.at_.block, m.at_.off + off, none⟩
inductive VR (μ : Mp) : Value → Value → Prop where
  | bool (b : Bool) : VR μ (.bool b) (.bool b)
  | int (k : IntKind) (n : Int) : VR μ (.int k n) (.int k n)
  | float (k : FloatKind) (n : Nat) : VR μ (.float k n) (.float k n)
  | string (s : ByteArray) : VR μ (.string s) (.string s)
  | nilFunc : VR μ .nilFunc .nilFunc
  | nilIface : VR μ .nilIface .nilIface
  | pnil : VR μ (.pointer none) (.pointer none)
  | mnil : VR μ (.map none) (.map none)
  | snil (n c : Nat) : VR μ (.slice none n c) (.slice none n c)
  | ptr {a : Addr} {m : MA} (hs : a.spot = none) (h : μ a.block = some m) : VR μ (.pointer (some a)) (.pointer (some (m.addr a.off)))
  | sliceE {a : Addr} {m : MA} {n c : Nat} (hs : a.spot = none) (hc : c < OPEN) (h : μ a.block = some m) : VR μ (.slice (some a) n c) (.slice (some (m.addr a.off)) n c)
  | sliceO {a : Addr} {m : MA} {n c : Nat} (hs : a.spot = none) (h : μ a.block = some m) (hl : m.at_.off + a.off + c * m.e = m.lim) (hn : n ≤ c) : VR μ (.slice (some a) n OPEN) (.slice (some (m.addr a.off)) n c)
  | sliceE0 {a A : Addr} {m : MA} (hs : a.spot = none) (h : μ a.block = some m) : VR μ (.slice (some a) 0 0) (.slice (some A) 0 0)
  | sliceO0 {a A : Addr} {m : MA} (hs : a.spot = none) (h : μ a.block = some m) (hl : m.at_.off + a.off = m.lim) : VR μ (.slice (some a) 0 OPEN) (.slice (some A) 0 0)
  | map {r : Nat} {m : MA} (h : μ r = some m) : VR μ (.map (some r)) (.map (some m.at_.block))
  | agg {xs ys : Array Value} (hn : xs.size = ys.size) (h : ∀ (i : Nat) x y, xs[i]? = some x → ys[i]? = some y → VR μ x y) : VR μ (.agg xs) (.agg ys)
  | tuple {xs ys : Array Value} (hn : xs.size = ys.size) (h : ∀ (i : Nat) x y, xs[i]? = some x → ys[i]? = some y → VR μ x y) : VR μ (.tuple xs) (.tuple ys)
  | func (fn : Fn) {xs ys xs' ys' : Array Value} (hn : xs.size = ys.size) (h : ∀ (i : Nat) x y, xs[i]? = some x → ys[i]? = some y → VR μ x y)
      (hn' : xs'.size = ys'.size) (h' : ∀ (i : Nat) x y, xs'[i]? = some x → ys'[i]? = some y → VR μ x y) : VR μ (.func fn xs xs') (.func fn ys ys')
  | iface (t : TypeId) {x y : Value} (h : VR μ x y) : VR μ (.iface t x) (.iface t y)
def Ext (μ μ' : Mp) : Prop := ∀ i m, μ i = some m → μ' i = some m
theorem Ext.refl (μ : Mp) : Ext μ μ := fun _ _ h => h
theorem Ext.trans {a b c : Mp} (h : Ext a b) (k : Ext b c) : Ext a c := fun i m e => k i m (h i m e)
theorem VR.mono {μ μ' : Mp} (h : Ext μ μ') {x y : Value} (r : VR μ x y) : VR μ' x y := by
  induction r with
  | bool b => exact .bool b
  | int k n => exact .int k n
  | float k n => exact .float k n
  | string s => exact .string s
  | nilFunc => exact .nilFunc
  | nilIface => exact .nilIface
  | pnil => exact .pnil
  | mnil => exact .mnil
  | snil n c => exact .snil n c
  | ptr hs hm => exact .ptr hs (h _ _ hm)
  | sliceE hs hc hm => exact .sliceE hs hc (h _ _ hm)
  | sliceO hs hm hl hn => exact .sliceO hs (h _ _ hm) hl hn
  | sliceE0 hs hm => exact .sliceE0 hs (h _ _ hm)
  | sliceO0 hs hm hl => exact .sliceO0 hs (h _ _ hm) hl
  | map hm => exact .map (h _ _ hm)
  | agg hn _ ih => exact .agg hn ih
  | tuple hn _ ih => exact .tuple hn ih
  | func fn hn _ hn' _ ih ih' => exact .func fn hn ih hn' ih'
  | iface t _ ih => exact .iface t ih
/-- Rows of values. -/
def VRs (μ : Mp) (xs ys : List Value) : Prop := xs.length = ys.length ∧ ∀ (i : Nat) x y, xs[i]? = some x → ys[i]? = some y → VR μ x y
theorem VRs.nil (μ : Mp) : VRs μ [] [] := ⟨rfl, fun i x y h => by simp at h⟩
theorem VRs.cons {μ : Mp} {x y : Value} {xs ys : List Value} (h : VR μ x y) (t : VRs μ xs ys) : VRs μ (x :: xs) (y :: ys) := by
  refine ⟨by simp [t.1], fun i a b ha hb => ?_⟩
  cases i with
  | zero => simp at ha hb; subst ha; subst hb; exact h
  | succ i => simp at ha hb; exact t.2 i a b ha hb
theorem VRs.of_cons {μ : Mp} {x : Value} {xs ys : List Value} (h : VRs μ (x :: xs) ys) : ∃ y ys', ys = y :: ys' ∧ VR μ x y ∧ VRs μ xs ys' := by
  cases ys with
  | nil => have := h.1; simp at this
  | cons y ys => exact ⟨y, ys, rfl, h.2 0 x y rfl rfl, by have := h.1; simpa using this, fun i a b ha hb => h.2 (i + 1) a b (by simpa using ha) (by simpa using hb)⟩
theorem VRs.of_nil {μ : Mp} {ys : List Value} (h : VRs μ [] ys) : ys = [] := by have := h.1; simp at this; exact List.length_eq_zero_iff.1 this.symm
theorem VRs.mono {μ μ' : Mp} (h : Ext μ μ') {xs ys : List Value} (r : VRs μ xs ys) : VRs μ' xs ys := ⟨r.1, fun i x y a b => (r.2 i x y a b).mono h⟩
theorem VRs.append {μ : Mp} {xs ys xs' ys' : List Value} (h : VRs μ xs ys) (h' : VRs μ xs' ys') : VRs μ (xs ++ xs') (ys ++ ys') := by
  refine ⟨by simp [h.1, h'.1], fun i a b ha hb => ?_⟩
  rw [List.getElem?_append] at ha hb
  rw [← h.1] at hb
  split at ha
  · rename_i hi; rw [if_pos hi] at hb; exact h.2 i a b ha hb
  · rename_i hi; rw [if_neg hi] at hb; exact h'.2 _ a b ha hb
theorem VRs.take {μ : Mp} {xs ys : List Value} (h : VRs μ xs ys) (n : Nat) : VRs μ (xs.take n) (ys.take n) := by
  refine ⟨by simp [h.1], fun i a b ha hb => ?_⟩
  rw [List.getElem?_take] at ha hb
  split at ha
  · rename_i hi; rw [if_pos hi] at hb; exact h.2 i a b ha hb
  · simp at ha
theorem VRs.drop {μ : Mp} {xs ys : List Value} (h : VRs μ xs ys) (n : Nat) : VRs μ (xs.drop n) (ys.drop n) := by
  refine ⟨by simp [h.1], fun i a b ha hb => ?_⟩
  rw [List.getElem?_drop] at ha hb
  exact h.2 _ a b ha hb
/-- Arrays of values. -/
def VRa (μ : Mp) (xs ys : Array Value) : Prop := VRs μ xs.toList ys.toList
theorem VRa.size {μ : Mp} {xs ys : Array Value} (h : VRa μ xs ys) : xs.size = ys.size := by have := h.1; simpa using this
theorem VRa.at {μ : Mp} {xs ys : Array Value} (h : VRa μ xs ys) (i : Nat) (x y : Value) (a : xs[i]? = some x) (b : ys[i]? = some y) : VR μ x y := h.2 i x y (by simpa using a) (by simpa using b)
theorem VRa.mk {μ : Mp} {xs ys : Array Value} (hn : xs.size = ys.size) (h : ∀ (i : Nat) x y, xs[i]? = some x → ys[i]? = some y → VR μ x y) : VRa μ xs ys :=
  ⟨by simpa using hn, fun i x y a b => h i x y (by simpa using a) (by simpa using b)⟩
theorem VR.agg' {μ : Mp} {xs ys : Array Value} (h : VRa μ xs ys) : VR μ (.agg xs) (.agg ys) := .agg h.size h.at
theorem VR.tuple' {μ : Mp} {xs ys : Array Value} (h : VRa μ xs ys) : VR μ (.tuple xs) (.tuple ys) := .tuple h.size h.at
theorem VR.func' {μ : Mp} (fn : Fn) {xs ys xs' ys' : Array Value} (h : VRa μ xs ys) (h' : VRa μ xs' ys') : VR μ (.func fn xs xs') (.func fn ys ys') := .func fn h.size h.at h'.size h'.at
theorem VR.of_agg {μ : Mp} {xs : Array Value} {y : Value} (h : VR μ (.agg xs) y) : ∃ ys, y = .agg ys ∧ VRa μ xs ys := by cases h with | agg hn h => exact ⟨_, rfl, .mk hn h⟩
theorem VR.of_tuple {μ : Mp} {xs : Array Value} {y : Value} (h : VR μ (.tuple xs) y) : ∃ ys, y = .tuple ys ∧ VRa μ xs ys := by cases h with | tuple hn h => exact ⟨_, rfl, .mk hn h⟩
theorem VR.undef (μ : Mp) : VR μ undef undef := .tuple rfl (fun i x y h => by simp at h)
theorem VRs.ext {xs ys : List Value} (hn : xs.length = ys.length) (h : ∀ (i : Nat) x y, xs[i]? = some x → ys[i]? = some y → x = y) : xs = ys := by
  apply List.ext_getElem hn
  intro i h1 h2
  exact h i _ _ (List.getElem?_eq_getElem h1) (List.getElem?_eq_getElem h2)
/-- A value with no address in it is itself on both sides. -/
theorem flat_eq {μ : Mp} : ∀ (n : Nat) {x y : Value}, flat n x = true → VR μ x y → y = x
  | n, x, y, hf, h => by
    cases h with
    | ptr _ _ => cases n <;> simp [flat] at hf
    | sliceE _ _ _ => cases n <;> simp [flat] at hf
    | sliceO _ _ _ _ => cases n <;> simp [flat] at hf
    | sliceE0 _ _ => cases n <;> simp [flat] at hf
    | sliceO0 _ _ _ => cases n <;> simp [flat] at hf
    | map _ => cases n <;> simp [flat] at hf
    | agg hn h =>
      cases n with
      | zero => simp [flat] at hf
      | succ n =>
        rename_i xs ys
        simp only [flat, List.all_eq_true] at hf
        congr 1
        refine (Array.ext' (VRs.ext (by simpa using hn) fun i a b ha hb => ?_)).symm
        exact (flat_eq n (hf a (List.mem_of_getElem? ha)) (h i a b (by simpa using ha) (by simpa using hb))).symm
    | tuple hn h =>
      cases n with
      | zero => simp [flat] at hf
      | succ n =>
        rename_i xs ys
        simp only [flat, List.all_eq_true] at hf
        congr 1
        refine (Array.ext' (VRs.ext (by simpa using hn) fun i a b ha hb => ?_)).symm
        exact (flat_eq n (hf a (List.mem_of_getElem? ha)) (h i a b (by simpa using ha) (by simpa using hb))).symm
    | func fn hn h hn' h' =>
      cases n with
      | zero => simp [flat] at hf
      | succ n =>
        rename_i xs ys xs' ys'
        simp only [flat, Bool.and_eq_true, List.all_eq_true] at hf
        have e1 : ys = xs := (Array.ext' (VRs.ext (by simpa using hn) fun i a b ha hb => (flat_eq n (hf.1 a (List.mem_of_getElem? ha)) (h i a b (by simpa using ha) (by simpa using hb))).symm)).symm
        have e2 : ys' = xs' := (Array.ext' (VRs.ext (by simpa using hn') fun i a b ha hb => (flat_eq n (hf.2 a (List.mem_of_getElem? ha)) (h' i a b (by simpa using ha) (by simpa using hb))).symm)).symm
        rw [e1, e2]
    | iface t h =>
      cases n with
      | zero => simp [flat] at hf
      | succ n => simp only [flat] at hf; rw [flat_eq n hf h]
    | _ => rfl
theorem VR.of_flat (μ : Mp) : ∀ (n : Nat) {x : Value}, flat n x = true → VR μ x x
  | n, x, hf => by
    cases x with
    | bool b => exact .bool b
    | int k n => exact .int k n
    | float k n => exact .float k n
    | string s => exact .string s
    | nilFunc => exact .nilFunc
    | nilIface => exact .nilIface
    | pointer a => cases a with | none => exact .pnil | some a => cases n <;> simp [flat] at hf
    | map a => cases a with | none => exact .mnil | some a => cases n <;> simp [flat] at hf
    | slice a l c => cases a with | none => exact .snil l c | some a => cases n <;> simp [flat] at hf
    | agg cs =>
      cases n with
      | zero => simp [flat] at hf
      | succ n =>
        simp only [flat, List.all_eq_true] at hf
        exact .agg rfl fun i a b ha hb => by rw [ha] at hb; cases hb; exact VR.of_flat μ n (hf a (Array.mem_toList_iff.2 (Array.mem_of_getElem? ha)))
    | tuple cs =>
      cases n with
      | zero => simp [flat] at hf
      | succ n =>
        simp only [flat, List.all_eq_true] at hf
        exact .tuple rfl fun i a b ha hb => by rw [ha] at hb; cases hb; exact VR.of_flat μ n (hf a (Array.mem_toList_iff.2 (Array.mem_of_getElem? ha)))
    | func fn a b =>
      cases n with
      | zero => simp [flat] at hf
      | succ n =>
        simp only [flat, Bool.and_eq_true, List.all_eq_true] at hf
        exact .func fn rfl (fun i a b ha hb => by rw [ha] at hb; cases hb; exact VR.of_flat μ n (hf.1 a (Array.mem_toList_iff.2 (Array.mem_of_getElem? ha))))
          rfl (fun i a b ha hb => by rw [ha] at hb; cases hb; exact VR.of_flat μ n (hf.2 a (Array.mem_toList_iff.2 (Array.mem_of_getElem? ha))))
    | iface t v =>
      cases n with
      | zero => simp [flat] at hf
      | succ n => simp only [flat] at hf; exact .iface t (VR.of_flat μ n hf)
    | _ => cases n <;> simp [flat] at hf
theorem VR.cells {μ : Mp} {x y : Value} (h : VR μ x y) : VRa μ x.cells y.cells := by
  cases h with
  | agg hn h => exact .mk hn h
  | _ => refine .mk rfl ?_; intro i a b ha hb; simp only [Value.cells] at ha hb; cases i with
    | zero => simp at ha hb; subst ha; subst hb; first | exact .bool _ | exact .int _ _ | exact .float _ _ | exact .string _ | exact .nilFunc | exact .nilIface | exact .pnil | exact .mnil | exact .snil _ _ | (apply VR.ptr <;> assumption) | (apply VR.sliceE <;> assumption) | (apply VR.sliceO <;> assumption) | (apply VR.sliceE0 <;> assumption) | (apply VR.sliceO0 <;> assumption) | (apply VR.map; assumption) | (apply VR.tuple <;> assumption) | (apply VR.func <;> assumption) | (apply VR.iface; assumption)
    | succ i => simp at ha
theorem VR.oneCell {μ : Mp} {x y : Value} (h : VR μ x y) : y.oneCell' = x.oneCell' := by cases h <;> rfl
end Go.Proofs.YtmbofpmjckjceaaDoor.E
