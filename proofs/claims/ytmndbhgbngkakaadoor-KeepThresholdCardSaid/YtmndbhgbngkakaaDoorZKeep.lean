/- KeepFirst, KeepCuts, KeepStays, KeepThreshold and KeepMerges yield true for all that is handed to them. No condition. -/
import Derived.Test.YtmndbhgbngkakaaDoorKH
import Derived.Test.YtmndbhgbngkakaaDoorKF
import Derived.Test.YtmndbhgbngkakaaDoorG21
namespace Go.Proofs.YtmndbhgbngkakaaDoor.Z
open Go Go.RowKit Go.Proofs.YtmndbhgbngkakaaDoor.E Go.Proofs.YtmndbhgbngkakaaDoor.G
set_option linter.all false
/-- A list of the shape of items is one of items. -/
theorem items_of {l : List FV} (h : ∀ x, x ∈ l → has (.agg [.str, .int .u64, .int .u64]) x = true) (hr : ∀ x, x ∈ l → ∀ c, c ∈ x.cells → ∀ n, rgF n c) : ∃ L : List It, l = its L ∧ ∀ x ∈ L, x.ok := by
  induction l with
  | nil => exact ⟨[], rfl, fun x h => by cases h⟩
  | cons x l ih =>
    obtain ⟨L, h1, h2⟩ := ih (fun y hy => h y (List.mem_cons_of_mem _ hy)) (fun y hy => hr y (List.mem_cons_of_mem _ hy))
    have hx := h x (List.mem_cons_self ..)
    have hrx := hr x (List.mem_cons_self ..)
    obtain ⟨k, u, w, rfl⟩ : ∃ k u w, x = .agg [.str k, .int .u64 u, .int .u64 w] := by
      cases x with
      | agg cs =>
        rcases cs with _ | ⟨a, _ | ⟨b, _ | ⟨c, _ | ⟨d, cs⟩⟩⟩⟩ <;> simp [has, hasL] at hx
        obtain ⟨ha, hb, hc⟩ := hx
        cases a <;> simp [has1] at ha
        cases b <;> simp [has1] at hb
        cases c <;> simp [has1] at hc
        subst hb; subst hc
        exact ⟨_, _, _, rfl⟩
      | _ => simp [has, has1] at hx
    have r1 : (Lit.int .u64 u).wf = true := hrx (.int .u64 u) (by simp [FV.cells]) 1
    have r2 : (Lit.int .u64 w).wf = true := hrx (.int .u64 w) (by simp [FV.cells]) 1
    refine ⟨⟨k, u, w⟩ :: L, by rw [h1]; rfl, fun y hy => ?_⟩
    rcases List.mem_cons.1 hy with rfl | hy
    · exact ⟨u64_of r1, u64_of r2⟩
    · exact h2 y hy
/-- A row of items. -/
theorem row_items {x : FV} (h : has (.row (.agg [.str, .int .u64, .int .u64])) x = true) (hr : ∀ n, rgF n x) (hw : ∀ n, wfF n x) : ∃ L : List It, x = .row (.agg [.str, .int .u64, .int .u64]) (its L) ∧ (∀ x ∈ L, x.ok) := by
  cases x with
  | row s l =>
    have hs := Shp.eqb_eq _ _ (show Shp.eqb (.agg [.str, .int .u64, .int .u64]) s = true from h)
    subst hs
    obtain ⟨L, h1, h2⟩ := items_of (fun y hy => (hw 1 y hy).1) (fun y hy c hc n => (hr (n + 1)).2 y hy c hc)
    exact ⟨L, by rw [h1], h2⟩
  | _ => simp [has, has1] at h
theorem int_of {k : IntKind} {x : FV} (h : has (.int k) x = true) : ∃ n, x = .int k n := by
  cases x <;> simp [has, has1] at h
  subst h; exact ⟨_, rfl⟩
theorem item_of {x : FV} (h : has (.agg [.str, .int .u64, .int .u64]) x = true) (hr : ∀ n, rgF n x) : ∃ k u w, x = .agg [.str k, .int .u64 u, .int .u64 w] ∧ It.ok ⟨k, u, w⟩ := by
  obtain ⟨L, h1, h2⟩ := items_of (l := [x]) (fun y hy => by rw [List.mem_singleton.1 hy]; exact h) (fun y hy c hc n => by
    rw [List.mem_singleton.1 hy] at hc
    cases x with
    | agg cs => exact hr (n + 1) c hc
    | _ => simp [has, has1] at h)
  rcases L with _ | ⟨z, _ | ⟨z', L⟩⟩
  · simp [its] at h1
  · have e : x = itF z := by simpa [its] using h1
    exact ⟨z.key, z.u, z.w, e, h2 z (by simp)⟩
  · simp [its] at h1
theorem stays_of {xs : List FV} (h : hasAll [.int .i64, .row (.agg [.str, .int .u64, .int .u64]), .agg [.str, .int .u64, .int .u64]] xs) {q : FV → FV → Prop} (hq : q (.bool true) .dead) : kStaysRun std xs q := by
  rcases xs with _ | ⟨x, _ | ⟨x', _ | ⟨y, _ | ⟨z, xs⟩⟩⟩⟩
  · exact h.elim
  · exact h.2.elim
  · exact h.2.2.elim
  · obtain ⟨⟨h1, _⟩, ⟨h4, h5, h6⟩, ⟨h7, h8, _⟩, _⟩ := h
    obtain ⟨n, rfl⟩ := int_of h1
    obtain ⟨L, rfl, g1⟩ := row_items h4 h5 h6
    obtain ⟨k, u, w, rfl, g2⟩ := item_of h7 h8
    exact ⟨L, ⟨rfl, g1, g2⟩, hq⟩
  · exact h.2.2.2.elim
theorem KeepThreshold_calls {W : World} {v0 v1 v2 : Value} (j0 : JobV W (.int .i64) v0) (j1 : JobV W (.row (.agg [.str, .int .u64, .int .u64])) v1) (j2 : JobV W (.agg [.str, .int .u64, .int .u64]) v2) :
    Calls Tryd.prog 7 #[v0, v1, v2] W (fun e w' => e = .returned (.bool true) ∧ Below W.heap.size W w') :=
  job_calls B_ok LV_ok kThresh_ok [(_, v0), (_, v1), (_, v2)] (fun p hp => by
    rcases List.mem_cons.1 hp with rfl | hp
    · exact j0
    rcases List.mem_cons.1 hp with rfl | hp
    · exact j1
    rw [List.mem_singleton.1 hp]; exact j2) fun xs hx => stays_of hx rfl
end Go.Proofs.YtmndbhgbngkakaaDoor.Z
