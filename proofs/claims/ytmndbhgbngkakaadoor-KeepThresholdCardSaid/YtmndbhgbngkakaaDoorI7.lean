/- slices.Insert and slices.Delete at items, over plain data. No condition but those that are written out. -/
import Derived.Test.YtmndbhgbngkakaaDoorI6
import Derived.Test.YtmndbhgbngkakaaDoorGB
namespace Go.Proofs.YtmndbhgbngkakaaDoor.I
open Go Go.RowKit Go.Proofs.YtmndbhgbngkakaaDoor.E Go.Proofs.YtmndbhgbngkakaaDoor.G
set_option linter.all false

def iSh : Shp := .agg [.str, .int .u64, .int .u64]
def vOf : FV → Value
  | .str s => .string s
  | .int k n => .int k n
  | _ => undef
def cellsV (l : List FV) : List Value := (l.flatMap FV.cells).map vOf
theorem item_form {x : FV} (hx : has iSh x = true) : ∃ k u w, x = .agg [.str k, .int .u64 u, .int .u64 w] := by
  cases x with
  | agg cs =>
    rcases cs with _ | ⟨a, _ | ⟨b, _ | ⟨c, _ | ⟨d, cs⟩⟩⟩⟩ <;> simp [iSh, has, hasL] at hx
    obtain ⟨ha, hb, hc⟩ := hx
    cases a <;> simp [has1] at ha
    cases b <;> simp [has1] at hb
    cases c <;> simp [has1] at hc
    subst hb; subst hc
    exact ⟨_, _, _, rfl⟩
  | _ => simp [iSh, has, has1] at hx
theorem cellsV_cons {k : ByteArray} {u w : Int} {l : List FV} : cellsV (.agg [.str k, .int .u64 u, .int .u64 w] :: l) = .string k :: .int .u64 u :: .int .u64 w :: cellsV l := rfl
theorem cellsV_app (l m : List FV) : cellsV (l ++ m) = cellsV l ++ cellsV m := by simp [cellsV]
theorem cellsV_len : ∀ {l : List FV}, (∀ x, x ∈ l → has iSh x = true) → (cellsV l).length = l.length * 3
  | [], _ => rfl
  | x :: l, h => by
    obtain ⟨k, u, w, rfl⟩ := item_form (h x (List.mem_cons_self ..))
    rw [cellsV_cons]
    simp only [List.length_cons, cellsV_len fun y hy => h y (List.mem_cons_of_mem _ hy)]; omega
theorem cellsV_take : ∀ {l : List FV} (i : Nat), (∀ x, x ∈ l → has iSh x = true) → (cellsV l).take (i * 3) = cellsV (l.take i)
  | [], i, _ => by simp [cellsV]
  | x :: l, 0, _ => by simp [cellsV]
  | x :: l, i + 1, h => by
    obtain ⟨k, u, w, rfl⟩ := item_form (h x (List.mem_cons_self ..))
    rw [cellsV_cons, List.take_succ_cons, cellsV_cons, show (i + 1) * 3 = i * 3 + 1 + 1 + 1 by omega, List.take_succ_cons, List.take_succ_cons, List.take_succ_cons, cellsV_take i fun y hy => h y (List.mem_cons_of_mem _ hy)]
theorem cellsV_drop : ∀ {l : List FV} (i : Nat), (∀ x, x ∈ l → has iSh x = true) → (cellsV l).drop (i * 3) = cellsV (l.drop i)
  | [], i, _ => by simp [cellsV]
  | x :: l, 0, _ => by simp
  | x :: l, i + 1, h => by
    obtain ⟨k, u, w, rfl⟩ := item_form (h x (List.mem_cons_self ..))
    rw [cellsV_cons, List.drop_succ_cons, show (i + 1) * 3 = i * 3 + 1 + 1 + 1 by omega, List.drop_succ_cons, List.drop_succ_cons, List.drop_succ_cons, cellsV_drop i fun y hy => h y (List.mem_cons_of_mem _ hy)]
theorem cellsV_ok : ∀ {l : List FV}, (∀ x, x ∈ l → has iSh x = true) → (cellsV l).all okv = true
  | [], _ => rfl
  | x :: l, h => by
    obtain ⟨k, u, w, rfl⟩ := item_form (h x (List.mem_cons_self ..))
    rw [cellsV_cons]
    have := cellsV_ok fun y hy => h y (List.mem_cons_of_mem _ hy)
    simp only [List.all_cons, this, Bool.and_true]
    rfl
theorem cellsV_get : ∀ {l : List FV} {n j : Nat} {x c : FV}, (∀ x, x ∈ l → has iSh x = true) → l[n]? = some x → x.cells[j]? = some c → (cellsV l)[n * 3 + j]? = some (vOf c) ∧ ∀ C, FR C c (vOf c)
  | [], n, j, x, c, _, h, _ => by simp at h
  | y :: l, 0, j, x, c, hs, h, hc => by
    simp at h; subst h
    obtain ⟨k, u, w, rfl⟩ := item_form (hs _ (List.mem_cons_self ..))
    rw [cellsV_cons, Nat.zero_mul, Nat.zero_add]
    rcases j with _ | _ | _ | j <;> simp [FV.cells] at hc <;> subst hc
    · exact ⟨rfl, fun C => .str k⟩
    · exact ⟨rfl, fun C => .int .u64 u⟩
    · exact ⟨rfl, fun C => .int .u64 w⟩
  | y :: l, n + 1, j, x, c, hs, h, hc => by
    obtain ⟨k, u, w, rfl⟩ := item_form (hs _ (List.mem_cons_self ..))
    rw [List.getElem?_cons_succ] at h
    have := cellsV_get (fun z hz => hs z (List.mem_cons_of_mem _ hz)) h hc
    rw [cellsV_cons, show (n + 1) * 3 + j = (n * 3 + j) + 1 + 1 + 1 by omega]
    simpa using this
theorem FR.vOf {C : Cx} {c : FV} {y : Value} (hc : (∃ s, c = .str s) ∨ ∃ k n, c = .int k n) (h : FR C c y) : y = vOf c := by
  rcases hc with ⟨s, rfl⟩ | ⟨k, n, rfl⟩ <;> cases h <;> rfl
/-- What lies there is the elements' cells. -/
theorem cells_eq {C : Cx} : ∀ {l : List FV} {ebc : List Value} {bs : Nat}, (∀ x, x ∈ l → has iSh x = true) → bs + l.length * 3 ≤ ebc.length →
    (∀ (n : Nat) (x : FV) (j : Nat) (c : FV) (y : Value), l[n]? = some x → x.cells[j]? = some c → ebc[bs + n * 3 + j]? = some y → FR C c y) → (ebc.drop bs).take (l.length * 3) = cellsV l
  | [], ebc, bs, _, _, _ => by simp [cellsV]
  | x :: l, ebc, bs, hs, hr, hf => by
    obtain ⟨k, u, w, rfl⟩ := item_form (hs _ (List.mem_cons_self ..))
    have hr' : bs + (l.length + 1) * 3 ≤ ebc.length := hr
    have g0 := FR.vOf (.inl ⟨k, rfl⟩) (hf 0 _ 0 (.str k) (ebc[bs]'(by omega)) rfl rfl (by rw [Nat.zero_mul]; exact List.getElem?_eq_getElem _))
    have g1 := FR.vOf (.inr ⟨_, u, rfl⟩) (hf 0 _ 1 (.int .u64 u) (ebc[bs + 1]'(by omega)) rfl rfl (by rw [Nat.zero_mul]; exact List.getElem?_eq_getElem _))
    have g2 := FR.vOf (.inr ⟨_, w, rfl⟩) (hf 0 _ 2 (.int .u64 w) (ebc[bs + 2]'(by omega)) rfl rfl (by rw [Nat.zero_mul]; exact List.getElem?_eq_getElem _))
    have ih := cells_eq (ebc := ebc) (bs := bs + 3) (fun z hz => hs z (List.mem_cons_of_mem _ hz)) (by omega) (fun n x j c y h1 h2 h3 => hf (n + 1) x j c y (by rw [List.getElem?_cons_succ]; exact h1) h2 (by rw [← h3]; congr 1; omega))
    rw [cellsV_cons, ← ih, List.length_cons, show (l.length + 1) * 3 = l.length * 3 + 1 + 1 + 1 by omega]
    rw [List.drop_eq_getElem_cons (by omega : bs < ebc.length), List.take_succ_cons, List.drop_eq_getElem_cons (by omega : bs + 1 < ebc.length), List.take_succ_cons, List.drop_eq_getElem_cons (by omega : bs + 1 + 1 < ebc.length), List.take_succ_cons, g0, g1]
    have g2' : ebc[bs + 1 + 1]'(by omega) = .int .u64 w := g2
    rw [g2']
    rfl
theorem take_drop_of {cs new : List Value} {b k : Nat} (hk : new.length = k) (hb : b + k ≤ cs.length) (h : ∀ t, t < k → cs[b + t]? = new[t]?) : (cs.drop b).take k = new := by
  refine List.ext_getElem? fun t => ?_
  rcases Nat.lt_or_ge t k with ht | ht
  · rw [List.getElem?_take, if_pos ht, List.getElem?_drop]; exact h t ht
  · rw [List.getElem?_eq_none (by rw [List.length_take]; omega), List.getElem?_eq_none (by omega)]
/-- A result that is nobody else's. -/
theorem res_of {C : Cx} {r b cap : Nat} {eb : Blk} {l : List FV} (hl : C.H.live r = some eb) (hro : eb.ro = false) (ho : C.own eb.fam ∧ C.wr eb.fam) (hs : ∀ x, x ∈ l → has iSh x = true) (hlen : b + l.length * 3 ≤ eb.cells.length)
    (hc : (eb.cells.drop b).take (l.length * 3) = cellsV l) (hcap : CapOwn eb.cells.length eb.esz 3 b l.length cap) : ResR C (.new iSh l) (.slice (some ⟨r, b, none⟩) l.length cap) := by
  refine ⟨some ⟨0, some (r, b), 3, l.length, eb.cells.length, eb.esz⟩, _, rfl, ⟨cap, rfl, hcap⟩, rfl, rfl, eb, hl, hro, fun _ => ho, (fun h => by cases h), rfl, rfl, rfl, hlen, hs, fun n x j c y h1 h2 h3 => ?_⟩
  obtain ⟨g1, g2⟩ := cellsV_get hs h1 h2
  have hn : n < l.length := (List.getElem?_eq_some_iff.1 h1).1
  obtain ⟨k, u, w, rfl⟩ := item_form (hs x (List.mem_of_getElem? h1))
  have hj : j < 3 := (List.getElem?_eq_some_iff.1 h2).1
  rw [← hc, List.getElem?_take, if_pos (by omega), List.getElem?_drop] at g1
  have h3 : eb.cells[b + n * 3 + j]? = some y := h3
  rw [← Nat.add_assoc, h3] at g1
  cases g1
  exact g2 C
theorem wr_eq {H : Mem} {i off : Nat} {vs : List Value} {b : Blk} (hl : H.live i = some b) (hr : b.ro = false) (hlen : off + vs.length ≤ b.cells.length) (h1 : ∀ v ∈ vs, v.oneCell' = true) : wr H i off vs = some (H.put i b (splice b.cells off vs)) := by
  unfold wr
  rw [hl]
  simp only
  rw [if_pos ⟨hr, hlen, List.all_eq_true.2 h1⟩]
end Go.Proofs.YtmndbhgbngkakaaDoor.I
