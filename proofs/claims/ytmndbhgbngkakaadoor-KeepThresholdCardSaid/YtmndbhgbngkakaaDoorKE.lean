/- keep, plainly: what is told of the program's and of the document's keep. No condition but those that are written out. -/
import Derived.Test.YtmndbhgbngkakaaDoorKD
import Derived.Test.YtmndbhgbngkakaaDoorKC
import Derived.Test.YtmndbhgbngkakaaDoorKZ
namespace Go.Proofs.YtmndbhgbngkakaaDoor.Z
open Go Go.RowKit Go.Proofs.YtmndbhgbngkakaaDoor.E Go.Proofs.YtmndbhgbngkakaaDoor.G Go.Proofs.YtmndbhgbngkakaaDoor.K Go.Proofs.YtmndbhgbngkakaaDoor.F Go.Proofs.YtmndbhgbngkakaaDoor.M Go.Proofs.YtmndbhgbngkakaaDoor.R
set_option linter.all false

abbrev gk (x : Gi) : ByteArray := x.1.key
theorem kc_it : Kc cG gk := fun x y h => (cmp_zero.1 h).2
theorem gi_g {S : List Gi} {n : Nat} (h : n < S.length) : gi (gs S) n = (S[n]).1 := by
  rw [gi_at (by rw [gs_len]; exact h)]
  simp [gs]
theorem gs_take (S : List Gi) (n : Nat) : gs (S.take n) = (gs S).take n := by simp [gs, List.map_take]
theorem gs_drop (S : List Gi) (n : Nat) : gs (S.drop n) = (gs S).drop n := by simp [gs, List.map_drop]
theorem mem_gs {S : List Gi} {x : Gi} : x.1 ∈ gs S ↔ x ∈ S := by
  unfold gs
  rw [List.mem_map]
  exact ⟨fun ⟨y, h, e⟩ => by rw [← Subtype.ext e]; exact h, fun h => ⟨x, h, rfl⟩⟩
theorem cut_ins {S : List Gi} (hS : Srtd cG S) {x : Gi} {r : Nat} (h : isCut x.1 (gs S) r) : S.take r ++ x :: S.drop r = insL cG x S := by
  obtain ⟨h1, h2, h3⟩ := h
  rw [gs_len] at h1 h3
  have := sym1 cG_pre hS (s := r) (x := x) (fun y h0 hy => by
    obtain ⟨hi, rfl⟩ := List.getElem?_eq_some_iff.1 hy
    have := h2 h0
    rwa [gi_g hi] at this) (fun y hy => by
    obtain ⟨hi, rfl⟩ := List.getElem?_eq_some_iff.1 hy
    have := h3 hi
    rwa [gi_g hi] at this) h1
  rw [this]
  show insL cG x (srt cG S) = _
  rw [srt_id cG_pre hS]
theorem put_gs {k : Nat} {S : List Gi} {x : Gi} {M : List It} (hS : Srtd cG S) (h : putR k (gs S) x.1 M) : M = gs ((insL cG x S).take (k + 1)) := by
  obtain ⟨r, h1, h2⟩ := h
  rw [← cut_ins hS h1, h2, gs_take, gs_app, ← gs_take, ← gs_drop, List.append_assoc]
  rfl
theorem add_gs {k : Nat} {S : List Gi} {x : Gi} {N : List It} (hS : Srtd cG S) (hU : Uq gk S) (h : addR k (gs (S.take (k + 1))) x.1 N) : ∃ T : List Gi, Upd cG gk S x T ∧ N = gs (T.take (k + 1)) := by
  have hS' := hS.take (k + 1)
  obtain ⟨r, hp, h⟩ := h
  have main : ∃ N' : List Gi, N = gs N' ∧ ((((∀ y ∈ S.take (k + 1), gk y ≠ gk x) ∧ N' = (insL cG x (S.take (k + 1))).take (k + 1)) ∨ ∃ A y B, S.take (k + 1) = A ++ y :: B ∧ gk y = gk x ∧ ((0 ≤ cG x y ∧ N' = S.take (k + 1)) ∨ (cG x y < 0 ∧ N' = (insL cG x (A ++ B)).take (k + 1))))) := by
    rcases hp with ⟨hr, h0⟩ | ⟨n, hr, hn, hkey, _⟩
    · have h1 : putR k (gs (S.take (k + 1))) x.1 N := by
        rcases h with ⟨_, h⟩ | ⟨g, _⟩ | ⟨g, _⟩
        · exact h
        · omega
        · omega
      refine ⟨_, put_gs hS' h1, .inl ⟨fun y hy => ?_, rfl⟩⟩
      obtain ⟨i, hi, rfl⟩ := List.mem_iff_getElem.1 hy
      have := h0 i (by rw [gs_len]; exact hi)
      rwa [gi_g hi] at this
    · rw [gs_len] at hn
      have hrn : r.toNat = n := by omega
      rw [gi_g hn] at hkey
      have hsp : S.take (k + 1) = (S.take (k + 1)).take n ++ (S.take (k + 1))[n] :: (S.take (k + 1)).drop (n + 1) := by
        rw [← List.drop_eq_getElem_cons hn, List.take_append_drop]
      rw [hrn, gi_g hn] at h
      rcases h with ⟨g, _⟩ | ⟨_, g, h⟩ | ⟨_, g, h⟩
      · omega
      · exact ⟨_, h, .inr ⟨_, _, _, hsp, hkey, .inl ⟨g, rfl⟩⟩⟩
      · have hAB : Srtd cG ((S.take (k + 1)).take n ++ (S.take (k + 1)).drop (n + 1)) := (hsp ▸ hS').mid.2.2
        rw [← gs_take, ← gs_drop, ← gs_app] at h
        exact ⟨_, put_gs hAB h, .inr ⟨_, _, _, hsp, hkey, .inr ⟨g, rfl⟩⟩⟩
  obtain ⟨N', e, h⟩ := main
  obtain ⟨T, hT, e2⟩ := take_step cG_pre kc_it hS hU (Nat.succ_pos k) rfl h
  exact ⟨T, hT, by rw [e, e2]⟩
theorem adj_srtd {L : List Gi} (h : ∀ j, 0 < j → (hj : j < L.length) → cG (L[j - 1]'(by omega)) L[j] ≤ 0) : Srtd cG L := by
  have main : ∀ d i, (hd : i + d < L.length) → cG (L[i]'(by omega)) (L[i + d]) ≤ 0 := by
    intro d
    induction d with
    | zero => intro i hd; have := cG_pre.refl L[i]; simp only [Nat.add_zero]; omega
    | succ d ih =>
      intro i hd
      have a := ih i (by omega)
      have b := h (i + (d + 1)) (by omega) hd
      exact cG_pre.trans a b
  refine List.pairwise_iff_getElem.2 fun i j hi hj hij => ?_
  have := main (j - i) i (by omega)
  have e : i + (j - i) = j := by omega
  simpa only [e] using this
/-- What is a keep. -/
theorem right_gs {k : Int} {L : List It} (hL : ∀ x ∈ L, x.ok) : rightB k L = true ↔ (1 ≤ k ∧ k ≤ 1024) ∧ (L.length : Int) ≤ k + 1 ∧ (∀ x ∈ L, chkIt x = 0) ∧ ∃ S : List Gi, L = gs S ∧ Srtd cG S ∧ Uq gk S := by
  constructor
  · intro h
    obtain ⟨h1, h2, h3⟩ := right_facts h
    have hc : ∀ x ∈ L, chkIt x = 0 := fun x hx => by
      obtain ⟨i, hi, rfl⟩ := List.mem_iff_getElem.1 hx
      have := (h3 i hi).1
      rwa [gi_at hi] at this
    obtain ⟨S, rfl⟩ := gs_of (L := L) fun x hx => by
      refine ⟨hL x hx, ?_⟩
      have h5 := may_chk (hL x hx)
      rw [hc x hx] at h5
      unfold mayIt at h5
      simp only [decide_true, Bool.and_eq_true, decide_eq_true_eq] at h5
      exact h5.2
    refine ⟨h1, h2, hc, S, rfl, adj_srtd fun j h0 hj => ?_, ?_⟩
    · have := (h3 j (by rw [gs_len]; exact hj)).2.2 h0
      rwa [gi_g (by omega), gi_g hj] at this
    · refine List.pairwise_iff_getElem.2 fun i j hi hj hij e => ?_
      refine (h3 j (by rw [gs_len]; exact hj)).2.1 ?_
      rw [gi_g hj, List.mem_map]
      refine ⟨S[i].1, ?_, e⟩
      rw [← gs_take, mem_gs]
      exact List.mem_of_getElem? (i := i) (by rw [List.getElem?_take_of_lt hij, List.getElem?_eq_getElem hi])
  · rintro ⟨h1, h2, h3, S, rfl, h4, h5⟩
    refine decide_eq_true (⟨h1, h2, fun j hj => ?_⟩ : (1 ≤ k ∧ k ≤ 1024) ∧ ((gs S).length : Int) ≤ k + 1 ∧ ∀ j, j < (gs S).length → rightP (gs S) j)
    rw [gs_len] at hj
    refine ⟨by rw [gi_g hj]; exact h3 _ (mem_gs.2 (List.getElem_mem hj)), fun hm => ?_, fun h0 => ?_⟩
    · rw [gi_g hj, List.mem_map] at hm
      obtain ⟨x, hx, e⟩ := hm
      rw [← gs_take] at hx
      obtain ⟨y, hy, rfl⟩ := List.mem_map.1 hx
      obtain ⟨i, hi, ey⟩ := mem_take hy
      obtain ⟨hi2, rfl⟩ := List.getElem?_eq_some_iff.1 ey
      exact List.pairwise_iff_getElem.1 h5 i j hi2 hj hi e
    · rw [gi_g hj, gi_g (by omega)]
      exact List.pairwise_iff_getElem.1 h4 (j - 1) j (by omega) hj (by omega)
theorem right_take {k : Nat} {S : List Gi} (hk : 1 ≤ k ∧ k ≤ 1024) (hc : ∀ x ∈ S, chkIt x.1 = 0) (h4 : Srtd cG S) (h5 : Uq gk S) : rightB k (gs (S.take (k + 1))) = true :=
  (right_gs gs_ok).2 ⟨⟨by omega, by omega⟩, by rw [gs_len, List.length_take]; omega, fun x hx => by
    obtain ⟨y, hy, rfl⟩ := List.mem_map.1 hx
    exact hc y (List.mem_of_mem_take hy), _, rfl, h4.take _, h5.take _⟩
end Go.Proofs.YtmndbhgbngkakaaDoor.Z
