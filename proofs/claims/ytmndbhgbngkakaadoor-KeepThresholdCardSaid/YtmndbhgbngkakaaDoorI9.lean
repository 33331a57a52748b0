/- slices.Insert at items, over plain data: what is said of it. No condition but those that are written out. -/
import Derived.Test.YtmndbhgbngkakaaDoorI8
namespace Go.Proofs.YtmndbhgbngkakaaDoor.I
open Go Go.RowKit Go.Proofs.YtmndbhgbngkakaaDoor.E Go.Proofs.YtmndbhgbngkakaaDoor.G
set_option linter.all false

section
variable {B : Base} {L : List (FuncId × Intr)} {f : FuncId}
theorem one_row {C : Cx} {x : List FV} {v : Value} (h : FR C (.row iSh x) v) (hx : x.length = 1) : ∃ j off cap eb, v = .slice (some ⟨j, off, none⟩) 1 cap ∧ C.H.live j = some eb ∧ (eb.ro = true ∨ ¬ C.own eb.fam) ∧ cap ≠ ZO ∧ off + 3 ≤ eb.cells.length ∧ (∀ y, y ∈ x → has iSh y = true) ∧ (eb.cells.drop off).take 3 = cellsV x := by
  generalize hr : FV.row iSh x = r at h
  cases h with
  | rowN sh => cases hr; simp at hx
  | rowE sh hs hc => cases hr; simp at hx
  | row hl hr' hc hs hf =>
    cases hr
    rw [hx] at hr' hc
    refine ⟨_, _, _, _, by rw [hx], hl.1, hl.2.imp id fun h => h.1, ?_, hr', hs, ?_⟩
    · rcases hc with rfl | ⟨rfl, _⟩ | ⟨_, h⟩
      · decide
      · decide
      · have : OPEN < ZO := by decide
        omega
    · have := cells_eq hs (by rw [hx]; exact hr') hf
      rw [hx] at this
      exact this
  | _ => cases hr
theorem new_res {C : Cx} {l : List FV} (W : WF C.H) (hs : ∀ x, x ∈ l → has iSh x = true) (hq : l.length * 3 ≤ l.length * 3) :
    ResR ⟨C.H.new (cellsV l) 3, fun f => C.own f ∨ f = C.H.n, fun f => f = C.H.n, fun _ => none, C.bad⟩ (.new iSh l) (.slice (some ⟨C.H.n, 0, none⟩) l.length OPEN) :=
  res_of (eb := ⟨cellsV l, 3, C.H.n, 0, false⟩) (by show (C.H.new _ _).live _ = _; rw [live_new W, if_pos rfl]) rfl ⟨.inr rfl, rfl⟩ hs (by rw [cellsV_len hs]; omega) (by rw [List.drop_zero, List.take_of_length_le (by rw [cellsV_len hs]; exact Nat.le_refl _)]) (.inl ⟨rfl, rfl, by rw [cellsV_len hs]; omega⟩)
theorem ins_spec (hl : lookI L f = some insI) (hb : ∃ fn, B.P.funcs[f]? = some fn ∧ fn.body.isSome = true) : SpecOk (B.env L) f ⟨true, insRun⟩ := by
  refine ⟨hb, fun C xs vs i0 q ha hr => ?_⟩
  obtain ⟨sh, l, xs', v, vs', rfl, hvs, hF, hO, h1v, hg0, hobj, hwr⟩ := ha.yes rfl
  replace hr : insRun std (.row sh l :: xs') q := hr
  unfold insRun at hr
  split at hr
  · rename_i s l' i s2 x e
    simp only [List.cons.injEq, FV.row.injEq] at e
    obtain ⟨⟨rfl, rfl⟩, rfl⟩ := e
    obtain ⟨⟨hs, hs2⟩, hc, hq⟩ := hr
    have hs' := Shp.eqb_eq _ _ hs
    have hs2' := Shp.eqb_eq _ _ hs2
    subst hs'; subst hs2'
    obtain ⟨hi0, hil, hx1, hbig⟩ : 0 ≤ i ∧ i.toNat ≤ l.length ∧ x.length = 1 ∧ (l.length + 1) * 32 ≤ maxRoom := hc
    obtain ⟨w1, vs1, rfl, f1, hF1⟩ := hF.of_cons
    obtain ⟨w2, vs2, rfl, f2, hF2⟩ := hF1.of_cons
    have hnil := hF2.of_nil
    subst hnil
    have e1 : w1 = .int .i64 i := by cases f1; rfl
    subst e1
    obtain ⟨jb, ob, cb, kb, rfl, hlb, hrob, hcz, hbl, hxs, hcx⟩ := one_row f2 hx1
    have hokb := cellsV_ok hxs
    rw [← hcx] at hokb
    have hxl : (cellsV x).length = 3 := by rw [cellsV_len hxs, hx1]
    have hq : q (.new iSh (l.take i.toNat ++ x ++ l.drop i.toNat)) .dead := hq
    have hki : (i.toNat : Int) = i := Int.toNat_of_nonneg hi0
    have hnl : (l.take i.toNat ++ x ++ l.drop i.toNat).length = l.length + 1 := by simp only [List.length_append, List.length_take, List.length_drop, hx1]; omega
    have fresh : ∀ v0, vs = #[.slice v0 0 0, .int .i64 i, .slice (some ⟨jb, ob, none⟩) 1 cb] → l = [] → insI vs C.H = some (.slice (some ⟨C.H.n, 0, none⟩) 1 OPEN, C.H.new (cellsV x) 3) →
        ∃ (H' : Mem) (v : Value) (r out : FV) (N : Nat → Prop), Gives (B.env L) f vs C.H v H' ∧ Ev C.wr C.H H' ∧ (∀ f, N f → f < H'.n ∧ (C.H.n ≤ f ∨ (out = .dead ∧ C.wr f))) ∧ ResR ⟨H', fun f => C.own f ∨ N f, N, fun _ => none, C.bad⟩ r v ∧ OutR C H' N true (.row iSh l :: [.int .i64 i, .row iSh x]) i0 out ∧ q r out := fun v0 hv hl0 hI => by
      subst hl0
      have hx' : (([] : List FV).take i.toNat ++ x ++ ([] : List FV).drop i.toNat) = x := by simp
      rw [hx'] at hq
      refine ⟨_, _, .new iSh x, .dead, fun f => f = C.H.n, gives_I hl hI, .new _ _ _ _, fun f hf => ?_, ?_, fun _ sh' l' e => (by cases e), hq⟩
      · subst hf; exact ⟨Nat.lt_succ_self _, .inl (Nat.le_refl _)⟩
      · have := new_res (C := C) ha.wf hxs (Nat.le_refl _)
        rwa [hx1] at this
    unfold OwnV at hO
    unfold ObjR at hobj
    cases hp : i0.pos with
    | none =>
      rw [hp] at hobj hO
      have h0 : l = [] := hobj.2.1
      obtain ⟨rfl, _⟩ := hO
      have hi00 : i = 0 := by rw [h0] at hil; simp at hil; omega
      have hvs' : vs = #[.slice none 0 0, .int .i64 i, .slice (some ⟨jb, ob, none⟩) 1 cb] := Array.ext' (by rw [hvs])
      refine fresh none hvs' h0 ?_
      rw [hvs', hi00]
      unfold insI
      simp only [hlb]
      rw [if_pos ⟨trivial, trivial, trivial, trivial, hcz, trivial, hbl, hokb⟩, hcx]
    | some rb =>
      obtain ⟨r, b⟩ := rb
      rw [hp] at hobj hO
      obtain ⟨he, eb, hlive, hro, how, _, hrl, hez, hlen, hfit, hsh, hfr⟩ := hobj
      obtain ⟨cap, rfl, hcap⟩ := hO
      have he : i0.e = 3 := he
      have hfit : b + l.length * 3 ≤ i0.rl := hfit
      rw [hrl] at hfit
      obtain ⟨ho, hw⟩ := how rfl
      have hdis : kb.ro = true ∨ kb.fam ≠ eb.fam := hrob.imp id fun h e => h (e ▸ ho)
      have hce := cells_eq hsh hfit hfr
      have hok := cellsV_ok hsh
      rw [← hce] at hok
      have hfl := live_fam ha.wf hlive hro
      rw [hlen, he, hrl, hez] at hcap
      rw [hlen] at hvs
      have hvs' : vs = #[.slice (some ⟨r, b, none⟩) l.length cap, .int .i64 i, .slice (some ⟨jb, ob, none⟩) 1 cb] := Array.ext' (by rw [hvs])
      have hsl : ∀ y, y ∈ l.take i.toNat ++ x ++ l.drop i.toNat → has iSh y = true := fun y hy => by
        rcases List.mem_append.1 hy with hy | hy
        · rcases List.mem_append.1 hy with hy | hy
          · exact hsh y (List.mem_of_mem_take hy)
          · exact hxs y hy
        · exact hsh y (List.mem_of_mem_drop hy)
      have hnew : cellsV (l.take i.toNat ++ x ++ l.drop i.toNat) = (cellsV l).take (i.toNat * 3) ++ cellsV x ++ (cellsV l).drop (i.toNat * 3) := by
        rw [cellsV_app, cellsV_app, cellsV_take _ hsh, cellsV_drop _ hsh]
      have hcl : (cellsV l).length = l.length * 3 := cellsV_len hsh
      rcases hcap with ⟨rfl, hez3, hend⟩ | ⟨hnc, hco, hcfit⟩
      · -- open
        have hdt : (eb.cells.drop b).take (l.length * 3) = eb.cells.drop b := List.take_of_length_le (by rw [List.length_drop]; omega)
        have hI : insI vs C.H = some (.slice (some ⟨C.H.n, 0, none⟩) (l.length + 1) OPEN, C.H.grow r eb false (cellsV (l.take i.toNat ++ x ++ l.drop i.toNat))) := by
          rw [hvs']
          unfold insI
          simp only [hlive, hlb]
          rw [if_pos ⟨trivial, trivial, trivial, trivial, hcz, hez3, hro, hdis, hend, hbl, hi0, hil, hbig, hok, hokb⟩, ← hdt, hce, hcx, hnew]
        refine ⟨_, _, .new iSh (l.take i.toNat ++ x ++ l.drop i.toNat), .dead, fun f => f = eb.fam, gives_I hl hI, .grow hlive hro (by rw [hez3]; decide) hw false _, fun f hf => ?_, ?_, fun _ sh' l' e => (by cases e), hq⟩
        · subst hf
          exact ⟨Nat.lt_succ_of_lt hfl, .inr ⟨rfl, hw⟩⟩
        · rw [← hnl]
          exact res_of (eb := ⟨cellsV (l.take i.toNat ++ x ++ l.drop i.toNat), eb.esz, eb.fam, C.H.gen eb.fam + 1, false⟩) (live_grow ha.wf false _) rfl ⟨.inr rfl, rfl⟩ hsl (by rw [cellsV_len hsl]; omega)
            (by rw [List.drop_zero, List.take_of_length_le (by rw [cellsV_len hsl]; exact Nat.le_refl _)]) (.inl ⟨rfl, hez3, by rw [cellsV_len hsl]; omega⟩)
      · have hno : cap ≠ OPEN := by omega
        by_cases hc0 : cap = 0
        · subst hc0
          have h0 : l = [] := List.eq_nil_of_length_eq_zero (by omega)
          have hi00 : i = 0 := by rw [h0] at hil; simp at hil; omega
          have hn0 : l.length = 0 := by rw [h0]; rfl
          rw [hn0] at hvs'
          refine fresh (some ⟨r, b, none⟩) hvs' h0 ?_
          rw [hvs', hi00]
          unfold insI
          simp only [hlive, hlb]
          rw [if_neg (fun h => hno h.2.2.1), if_pos ⟨trivial, trivial, trivial, trivial, trivial, hcz, trivial, hbl, hokb⟩, hcx]
        · have hcond : (True ∧ True ∧ cap < OPEN ∧ 0 < cap ∧ l.length ≤ cap ∧ True ∧ cb ≠ ZO ∧ eb.ro = false ∧ (kb.ro = true ∨ kb.fam ≠ eb.fam) ∧ b + cap * 3 ≤ eb.cells.length ∧ ob + 3 ≤ kb.cells.length ∧ 0 ≤ i ∧ i.toNat ≤ l.length ∧ (l.length + 1) * 32 ≤ maxRoom ∧ ((eb.cells.drop b).take (l.length * 3)).all okv = true ∧ ((kb.cells.drop ob).take 3).all okv = true) :=
            ⟨trivial, trivial, hco, by omega, hnc, trivial, hcz, hro, hdis, hcfit, hbl, hi0, hil, hbig, hok, hokb⟩
          have hx1c : ∀ v ∈ cellsV x, v.oneCell' = true := fun v hv => okv_one (List.all_eq_true.1 (cellsV_ok hxs) v hv)
          have hl1c : ∀ v ∈ cellsV l, v.oneCell' = true := fun v hv => okv_one (List.all_eq_true.1 (cellsV_ok hsh) v hv)
          by_cases hroom : l.length + 1 ≤ cap
          · by_cases hin : i.toNat = l.length
            · -- at the end
              obtain ⟨S1, hS1⟩ : ∃ S1, S1 = splice eb.cells (b + l.length * 3) (cellsV x) := ⟨_, rfl⟩
              have sp1 : S1.length = eb.cells.length := by rw [hS1]; exact splice_length _ _ _ (by rw [hxl]; omega)
              have q1 : wr C.H r (b + l.length * 3) (cellsV x) = some (C.H.put r eb S1) := by
                rw [hS1]; exact wr_eq hlive hro (by rw [hxl]; omega) hx1c
              obtain ⟨eb1, lv1, c1, z1, f1, r1⟩ : ∃ eb1, (C.H.put r eb S1).live r = some eb1 ∧ eb1.cells = S1 ∧ eb1.esz = eb.esz ∧ eb1.fam = eb.fam ∧ eb1.ro = false := ⟨_, live_put hlive hro S1, rfl, rfl, rfl, hro⟩
              have hI : insI vs C.H = some (.slice (some ⟨r, b, none⟩) (l.length + 1) cap, C.H.put r eb S1) := by
                rw [hvs']
                unfold insI
                simp only [hlive, hlb]
                rw [if_neg (fun h => hno h.2.2.1), if_neg (fun h => hc0 h.2.2.2.1), if_pos hcond, if_pos hroom, if_pos hin, hcx, q1]
                rfl
              have v1 : Ev C.wr C.H (C.H.put r eb S1) := .put hlive hro hw _
              refine ⟨_, _, .new iSh (l.take i.toNat ++ x ++ l.drop i.toNat), .dead, fun f => f = eb.fam, gives_I hl hI, v1, fun f hf => ?_, ?_, fun _ sh' l' e => (by cases e), hq⟩
              · subst hf
                have n1 := v1.n
                exact ⟨by omega, .inr ⟨rfl, hw⟩⟩
              · rw [← hnl]
                refine res_of lv1 r1 ⟨.inr f1, f1⟩ hsl ?_ ?_ (.inr ⟨by rw [hnl]; omega, hco, ?_⟩)
                · rw [c1, sp1, hnl]; omega
                · rw [c1]
                  refine take_drop_of (by rw [cellsV_len hsl]) (by rw [sp1, hnl]; omega) fun t ht => ?_
                  rw [hnl] at ht
                  rw [hS1, splice_get _ _ _ _ (by rw [hxl]; omega), hnew, hin, List.take_of_length_le (by omega), List.drop_of_length_le (by omega), List.append_nil]
                  rcases Nat.lt_or_ge t (l.length * 3) with h1 | h1
                  · rw [if_pos (by omega), List.getElem?_append_left (by omega), ← hce, List.getElem?_take, if_pos h1, List.getElem?_drop]
                  · rw [if_neg (by omega), if_pos (by rw [hxl]; omega), List.getElem?_append_right (by omega), hcl]
                    congr 1; omega
                · rw [c1, sp1]; exact hcfit
            · -- further ahead
              have hrest : ((cellsV l).drop (i.toNat * 3)).length = (l.length - i.toNat) * 3 := by rw [List.length_drop, hcl]; omega
              obtain ⟨S1, hS1⟩ : ∃ S1, S1 = splice eb.cells (b + (i.toNat + 1) * 3) ((cellsV l).drop (i.toNat * 3)) := ⟨_, rfl⟩
              have sp1 : S1.length = eb.cells.length := by rw [hS1]; exact splice_length _ _ _ (by rw [hrest]; omega)
              have q1 : wr C.H r (b + (i.toNat + 1) * 3) ((cellsV l).drop (i.toNat * 3)) = some (C.H.put r eb S1) := by
                rw [hS1]; exact wr_eq hlive hro (by rw [hrest]; omega) (fun v hv => hl1c v (List.mem_of_mem_drop hv))
              obtain ⟨eb1, lv1, c1, z1, f1, r1⟩ : ∃ eb1, (C.H.put r eb S1).live r = some eb1 ∧ eb1.cells = S1 ∧ eb1.esz = eb.esz ∧ eb1.fam = eb.fam ∧ eb1.ro = false := ⟨_, live_put hlive hro S1, rfl, rfl, rfl, hro⟩
              obtain ⟨S2, hS2⟩ : ∃ S2, S2 = splice S1 (b + i.toNat * 3) (cellsV x) := ⟨_, rfl⟩
              have sp2 : S2.length = eb.cells.length := by rw [hS2, splice_length _ _ _ (by rw [hxl]; omega), sp1]
              have q2 : wr (C.H.put r eb S1) r (b + i.toNat * 3) (cellsV x) = some ((C.H.put r eb S1).put r eb1 S2) := by
                have q := wr_eq lv1 r1 (off := b + i.toNat * 3) (vs := cellsV x) (by rw [hxl, c1]; omega) hx1c
                rw [c1] at q
                rw [hS2]; exact q
              obtain ⟨eb2, lv2, c2, z2, f2, r2⟩ : ∃ eb2, ((C.H.put r eb S1).put r eb1 S2).live r = some eb2 ∧ eb2.cells = S2 ∧ eb2.esz = eb1.esz ∧ eb2.fam = eb1.fam ∧ eb2.ro = false := ⟨_, live_put lv1 r1 S2, rfl, rfl, rfl, r1⟩
              have hI : insI vs C.H = some (.slice (some ⟨r, b, none⟩) (l.length + 1) cap, (C.H.put r eb S1).put r eb1 S2) := by
                rw [hvs']
                unfold insI
                simp only [hlive, hlb]
                rw [if_neg (fun h => hno h.2.2.1), if_neg (fun h => hc0 h.2.2.2.1), if_pos hcond, if_pos hroom, if_neg hin, hcx, hce, q1]
                simp only
                rw [q2]
                rfl
              have v1 : Ev C.wr C.H (C.H.put r eb S1) := .put hlive hro hw _
              have v2 : Ev C.wr (C.H.put r eb S1) ((C.H.put r eb S1).put r eb1 S2) := .put lv1 r1 (by rw [f1]; exact hw) _
              refine ⟨_, _, .new iSh (l.take i.toNat ++ x ++ l.drop i.toNat), .dead, fun f => f = eb.fam, gives_I hl hI, .trans v1 (fun f h => .inl h) v2, fun f hf => ?_, ?_, fun _ sh' l' e => (by cases e), hq⟩
              · subst hf
                have n1 := v1.n
                have n2 := v2.n
                exact ⟨by omega, .inr ⟨rfl, hw⟩⟩
              · rw [← hnl]
                have hfm : eb2.fam = eb.fam := f2.trans f1
                refine res_of lv2 r2 ⟨.inr hfm, hfm⟩ hsl ?_ ?_ (.inr ⟨by rw [hnl]; omega, hco, ?_⟩)
                · rw [c2, sp2, hnl]; omega
                · rw [c2]
                  refine take_drop_of (by rw [cellsV_len hsl]) (by rw [sp2, hnl]; omega) fun t ht => ?_
                  rw [hnl] at ht
                  have hlt : ((cellsV l).take (i.toNat * 3)).length = i.toNat * 3 := by rw [List.length_take, hcl]; omega
                  rw [hS2, splice_get _ _ _ _ (by rw [hxl]; omega), hS1, splice_get _ _ _ _ (by rw [hrest]; omega), hnew, List.append_assoc]
                  rcases Nat.lt_or_ge t (i.toNat * 3) with h1 | h1
                  · rw [if_pos (by omega), if_pos (by omega), List.getElem?_append_left (by omega), List.getElem?_take, if_pos h1, ← hce, List.getElem?_take, if_pos (by omega), List.getElem?_drop]
                  · rw [if_neg (by omega), List.getElem?_append_right (by omega), hlt]
                    rcases Nat.lt_or_ge t (i.toNat * 3 + 3) with h2 | h2
                    · rw [if_pos (by rw [hxl]; omega), List.getElem?_append_left (by rw [hxl]; omega)]
                      congr 1; omega
                    · rw [if_neg (by rw [hxl]; omega), if_neg (by omega), if_pos (by rw [hrest]; omega), List.getElem?_append_right (by rw [hxl]; omega), hxl]
                      congr 1; omega
                · rw [c2, sp2]; exact hcfit
          · -- full
            have hI : insI vs C.H = some (.slice (some ⟨C.H.n, 0, none⟩) (l.length + 1) OPEN, C.H.new (cellsV (l.take i.toNat ++ x ++ l.drop i.toNat)) 3) := by
              rw [hvs']
              unfold insI
              simp only [hlive, hlb]
              rw [if_neg (fun h => hno h.2.2.1), if_neg (fun h => hc0 h.2.2.2.1), if_pos hcond, if_neg hroom, hcx, hce, hnew]
            refine ⟨_, _, .new iSh (l.take i.toNat ++ x ++ l.drop i.toNat), .dead, fun f => f = C.H.n, gives_I hl hI, .new _ _ _ _, fun f hf => ?_, ?_, fun _ sh' l' e => (by cases e), hq⟩
            · subst hf; exact ⟨Nat.lt_succ_self _, .inl (Nat.le_refl _)⟩
            · have := new_res (C := C) ha.wf hsl (Nat.le_refl _)
              rwa [hnl] at this
  · exact hr.elim
end
end Go.Proofs.YtmndbhgbngkakaaDoor.I
