/- slices.Insert and slices.Delete at items, over plain data: what is said of them. No condition but those that are written out. -/
import Derived.Test.YtmndbhgbngkakaaDoorI7
namespace Go.Proofs.YtmndbhgbngkakaaDoor.I
open Go Go.RowKit Go.Proofs.YtmndbhgbngkakaaDoor.E Go.Proofs.YtmndbhgbngkakaaDoor.G
set_option linter.all false

def insRun (A : Lz) (args : List FV) (q : FV → FV → Prop) : Prop :=
  match args with
  | [.row s l, .int .i64 i, .row s2 x] => (Shp.eqb s iSh = true ∧ Shp.eqb s2 iSh = true) ∧ (A _ fun _ => 0 ≤ i ∧ i.toNat ≤ l.length ∧ x.length = 1 ∧ (l.length + 1) * 32 ≤ maxRoom) ∧ q (.new iSh (A _ fun _ => l.take i.toNat ++ x ++ l.drop i.toNat)) .dead
  | _ => False
def delRun (A : Lz) (args : List FV) (q : FV → FV → Prop) : Prop :=
  match args with
  | [.row s l, .int .i64 i, .int .i64 j] => Shp.eqb s iSh = true ∧ (A _ fun _ => 0 ≤ i ∧ i.toNat < l.length ∧ j = i + 1 ∧ l.length * 32 ≤ maxRoom) ∧ q (.new iSh (A _ fun _ => l.take i.toNat ++ l.drop (i.toNat + 1))) .dead
  | _ => False
section
variable {B : Base} {L : List (FuncId × Intr)} {f : FuncId}
theorem gives_I {g : Intr} (hl : lookI L f = some g) {args : Array Value} {H H' : Mem} {v : Value} (h : g args H = some (v, H')) : Gives (B.env L) f args H v H' := ⟨1, fun n hn => by
  obtain ⟨m, rfl⟩ := Nat.exists_eq_add_of_le hn
  rw [Nat.add_comm, evCall_eq]
  have e : (B.env L).I f = some g := hl
  rw [e]
  exact h⟩
theorem del_spec (hl : lookI L f = some delI) (hb : ∃ fn, B.P.funcs[f]? = some fn ∧ fn.body.isSome = true) : SpecOk (B.env L) f ⟨true, delRun⟩ := by
  refine ⟨hb, fun C xs vs i0 q ha hr => ?_⟩
  obtain ⟨sh, l, xs', v, vs', rfl, hvs, hF, hO, h1v, hg0, hobj, hwr⟩ := ha.yes rfl
  replace hr : delRun std (.row sh l :: xs') q := hr
  unfold delRun at hr
  split at hr
  · rename_i s l' i j e
    simp only [List.cons.injEq, FV.row.injEq] at e
    obtain ⟨⟨rfl, rfl⟩, rfl⟩ := e
    obtain ⟨hs, hc, hq⟩ := hr
    have hs' := Shp.eqb_eq _ _ hs
    subst hs'
    obtain ⟨hi0, hin, rfl, hbig⟩ : 0 ≤ i ∧ i.toNat < l.length ∧ j = i + 1 ∧ l.length * 32 ≤ maxRoom := hc
    obtain ⟨w1, vs1, rfl, f1, hF1⟩ := hF.of_cons
    obtain ⟨w2, vs2, rfl, f2, hF2⟩ := hF1.of_cons
    have hnil := hF2.of_nil
    subst hnil
    have e1 : w1 = .int .i64 i := by cases f1; rfl
    have e2 : w2 = .int .i64 (i + 1) := by cases f2; rfl
    subst e1; subst e2
    have hil : i.toNat ≤ l.length := Nat.le_of_lt hin
    have hsl : ∀ eb : Blk, (∀ x, x ∈ l → has iSh x = true) → ∀ x, x ∈ l.take i.toNat ++ l.drop (i.toNat + 1) → has iSh x = true := fun _ h x hx => by
      rcases List.mem_append.1 hx with hx | hx
      · exact h x (List.mem_of_mem_take hx)
      · exact h x (List.mem_of_mem_drop hx)
    have hnl : (l.take i.toNat ++ l.drop (i.toNat + 1)).length = l.length - 1 := by simp only [List.length_append, List.length_take, List.length_drop]; omega
    unfold OwnV at hO
    unfold ObjR at hobj
    cases hp : i0.pos with
    | none =>
      rw [hp] at hobj
      have h0 : l = [] := hobj.2.1
      subst h0
      simp at hin
    | some rb =>
      obtain ⟨r, b⟩ := rb
      rw [hp] at hobj hO
      obtain ⟨he, eb, hlive, hro, how, _, hrl, hez, hlen, hfit, hsh, hfr⟩ := hobj
      obtain ⟨cap, rfl, hcap⟩ := hO
      have he : i0.e = 3 := he
      have hfit : b + l.length * 3 ≤ i0.rl := hfit
      rw [hrl] at hfit
      obtain ⟨ho, hw⟩ := how rfl
      have hce := cells_eq hsh hfit hfr
      have hok := cellsV_ok hsh
      rw [← hce] at hok
      have hev : C.H.n ≤ eb.fam ∨ C.wr eb.fam := .inr hw
      have hfl := live_fam ha.wf hlive hro
      rw [hlen, he, hrl, hez] at hcap
      rw [hlen] at hvs
      have hvs' : vs = #[.slice (some ⟨r, b, none⟩) l.length cap, .int .i64 i, .int .i64 (i + 1)] := Array.ext' (by rw [hvs])
      rcases hcap with ⟨rfl, hez3, hend⟩ | ⟨hnc, hco, hcfit⟩
      · -- open
        have hdt : (eb.cells.drop b).take (l.length * 3) = eb.cells.drop b := List.take_of_length_le (by rw [List.length_drop]; omega)
        have hI : delI vs C.H = some (.slice (some ⟨C.H.n, 0, none⟩) (l.length - 1) OPEN, C.H.grow r eb false (cellsV (l.take i.toNat ++ l.drop (i.toNat + 1)))) := by
          rw [hvs']
          unfold delI
          simp only [hlive]
          rw [if_pos ⟨trivial, trivial, hez3, hro, hend, hi0, hin, trivial, hbig, hok⟩, ← hdt, hce, cellsV_take _ hsh, cellsV_drop _ hsh, ← cellsV_app]
        refine ⟨_, _, .new iSh (l.take i.toNat ++ l.drop (i.toNat + 1)), .dead, fun f => f = eb.fam, gives_I hl hI, .grow hlive hro (by rw [hez3]; decide) hw false _, fun f hf => ?_, ?_, fun _ sh' l' e => (by cases e), hq⟩
        · subst hf
          exact ⟨Nat.lt_succ_of_lt hfl, .inr ⟨rfl, hw⟩⟩
        · rw [← hnl]
          exact res_of (eb := ⟨cellsV (l.take i.toNat ++ l.drop (i.toNat + 1)), eb.esz, eb.fam, C.H.gen eb.fam + 1, false⟩) (live_grow ha.wf false _) rfl ⟨.inr rfl, rfl⟩ (hsl eb hsh) (by rw [cellsV_len (hsl eb hsh)]; omega)
            (by rw [List.drop_zero, List.take_of_length_le (by rw [cellsV_len (hsl eb hsh)]; exact Nat.le_refl _)]) (.inl ⟨rfl, hez3, by rw [cellsV_len (hsl eb hsh)]; omega⟩)
      · -- its capacity is known
        have hno : cap ≠ OPEN := by omega
        have hz1 : ∀ v ∈ zerosOf itz.cells 3, v.oneCell' = true := fun v hv => by rw [itz3] at hv; simp at hv; rcases hv with rfl | rfl <;> rfl
        have hzl : (zerosOf itz.cells 3).length = 3 := by rw [itz3]; rfl
        have hcl : (cellsV l).length = l.length * 3 := cellsV_len hsh
        have hrest : ((cellsV l).drop ((i.toNat + 1) * 3)).length = (l.length - (i.toNat + 1)) * 3 := by rw [List.length_drop, hcl]; omega
        have hok1 : ∀ v ∈ cellsV l, v.oneCell' = true := fun v hv => okv_one (List.all_eq_true.1 (cellsV_ok hsh) v hv)
        obtain ⟨S1, hS1⟩ : ∃ S1, S1 = splice eb.cells (b + i.toNat * 3) ((cellsV l).drop ((i.toNat + 1) * 3)) := ⟨_, rfl⟩
        have sp1 : S1.length = eb.cells.length := by rw [hS1]; exact splice_length _ _ _ (by rw [hrest]; omega)
        have q1 : wr C.H r (b + i.toNat * 3) ((cellsV l).drop ((i.toNat + 1) * 3)) = some (C.H.put r eb S1) := by
          rw [hS1]; exact wr_eq hlive hro (by rw [hrest]; omega) (fun v hv => hok1 v (List.mem_of_mem_drop hv))
        obtain ⟨eb1, lv1, c1, z1, f1, r1⟩ : ∃ eb1, (C.H.put r eb S1).live r = some eb1 ∧ eb1.cells = S1 ∧ eb1.esz = eb.esz ∧ eb1.fam = eb.fam ∧ eb1.ro = false := ⟨_, live_put hlive hro S1, rfl, rfl, rfl, hro⟩
        obtain ⟨S2, hS2⟩ : ∃ S2, S2 = splice S1 (b + (l.length - 1) * 3) (zerosOf itz.cells 3) := ⟨_, rfl⟩
        have sp2 : S2.length = eb.cells.length := by rw [hS2, splice_length _ _ _ (by rw [hzl]; omega), sp1]
        have q2 : wr (C.H.put r eb S1) r (b + (l.length - 1) * 3) (zerosOf itz.cells 3) = some ((C.H.put r eb S1).put r eb1 S2) := by
          have q := wr_eq lv1 r1 (off := b + (l.length - 1) * 3) (vs := zerosOf itz.cells 3) (by rw [hzl, c1]; omega) hz1
          rw [c1] at q
          rw [hS2]; exact q
        obtain ⟨eb2, lv2, c2, z2, f2, r2⟩ : ∃ eb2, ((C.H.put r eb S1).put r eb1 S2).live r = some eb2 ∧ eb2.cells = S2 ∧ eb2.esz = eb1.esz ∧ eb2.fam = eb1.fam ∧ eb2.ro = false := ⟨_, live_put lv1 r1 S2, rfl, rfl, rfl, r1⟩
        have hI : delI vs C.H = some (.slice (some ⟨r, b, none⟩) (l.length - 1) cap, (C.H.put r eb S1).put r eb1 S2) := by
          rw [hvs']
          unfold delI
          simp only [hlive]
          rw [if_neg (fun h => hno h.2.1), if_pos ⟨trivial, hco, hnc, hro, hfit, hi0, hin, trivial, hbig, hok⟩, hce, q1]
          simp only
          rw [q2]
          rfl
        have v1 : Ev C.wr C.H (C.H.put r eb S1) := .put hlive hro hw _
        have v2 : Ev C.wr (C.H.put r eb S1) ((C.H.put r eb S1).put r eb1 S2) := .put lv1 r1 (by rw [f1]; exact hw) _
        refine ⟨_, _, .new iSh (l.take i.toNat ++ l.drop (i.toNat + 1)), .dead, fun f => f = eb.fam, gives_I hl hI, .trans v1 (fun f h => .inl h) v2, fun f hf => ?_, ?_, fun _ sh' l' e => (by cases e), hq⟩
        · subst hf
          have n1 := v1.n
          have n2 := v2.n
          exact ⟨by omega, .inr ⟨rfl, hw⟩⟩
        · rw [← hnl]
          have hfm : eb2.fam = eb.fam := f2.trans f1
          refine res_of lv2 r2 ⟨.inr hfm, hfm⟩ (hsl eb hsh) ?_ ?_ (.inr ⟨by rw [hnl]; omega, hco, ?_⟩)
          · rw [c2, sp2, hnl]; omega
          · rw [c2]
            refine take_drop_of (by rw [cellsV_len (hsl eb hsh)]) (by rw [sp2, hnl]; omega) fun t ht => ?_
            rw [hnl] at ht
            rw [hS2, splice_get _ _ _ _ (by rw [hzl]; omega), if_pos (by omega), hS1, splice_get _ _ _ _ (by rw [hrest]; omega)]
            rw [cellsV_app, ← cellsV_take _ hsh, ← cellsV_drop _ hsh]
            have hlt : ((cellsV l).take (i.toNat * 3)).length = i.toNat * 3 := by rw [List.length_take, hcl]; omega
            rcases Nat.lt_or_ge t (i.toNat * 3) with h1 | h1
            · rw [if_pos (by omega), List.getElem?_append_left (by omega), List.getElem?_take, if_pos h1, ← hce, List.getElem?_take, if_pos (by omega), List.getElem?_drop]
            · rw [if_neg (by omega), if_pos (by rw [hrest]; omega), List.getElem?_append_right (by omega), hlt]
              congr 1; omega
          · rw [c2, sp2]; exact hcfit
  · exact hr.elim
end
end Go.Proofs.YtmndbhgbngkakaaDoor.I
