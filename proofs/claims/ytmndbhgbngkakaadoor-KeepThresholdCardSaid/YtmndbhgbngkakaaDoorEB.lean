/- Several texts of one claim in one file: YtmndbhgbngkakaaDoorE9, YtmndbhgbngkakaaDoorE10, YtmndbhgbngkakaaDoorE11, YtmndbhgbngkakaaDoorE12, YtmndbhgbngkakaaDoorE13, YtmndbhgbngkakaaDoorE14, YtmndbhgbngkakaaDoorE15, YtmndbhgbngkakaaDoorE16, YtmndbhgbngkakaaDoorE17, YtmndbhgbngkakaaDoorE18, YtmndbhgbngkakaaDoorE19, YtmndbhgbngkakaaDoorE20, YtmndbhgbngkakaaDoorE21, YtmndbhgbngkakaaDoorE22. No condition. -/
import Derived.Test.YtmndbhgbngkakaaDoorEA
import Derived.Laws.BytesString
import Derived.MapKept
import Derived.KernelRfl
import Derived.Lib.Bytealg
import Derived.Laws.Entries
section
/- The evaluator's operations and the model's: each of them. No condition. -/
namespace Go.Proofs.YtmndbhgbngkakaaDoor.E
open Go Go.RowKit Go.MapKept
set_option linter.all false

section
variable {base:Nat} {μ:Mp} {H H':Mem} {w:World} {P:Program}
theorem bytesOf_eq:∀ (vs:List Value) (ns:List Int),bytesOf vs=some ns→vs=ns.map (Value.int .u8)
 | [],ns,h=>by simp [bytesOf] at h;subst h;rfl
 | v::vs,ns,h=>by
  unfold bytesOf at h
  split at h
  ·rename_i e;cases e
  ·rename_i n rest e
   cases e
   cases hb:bytesOf vs with
   | none=>simp [hb] at h
   | some l'=>simp [hb] at h;subst h;rw [bytesOf_eq vs l' hb];rfl
  ·cases h
theorem ints_flat (ns:List Int) (k:IntKind):(ns.map (Value.int k)).all (flat depth)=true:=by
 rw [List.all_eq_true];intro v hv;obtain ⟨n,_,rfl⟩:=List.mem_map.1 hv;rfl
theorem convV_ok (R:Rl base μ H w) {s d:TypeId} {x x' v:Value} (hx:VR μ x x') (h:convV P H s d x=some v):∃ v',(convert s d x').run P w=.ok v' w∧VR μ v v':=by
 unfold convV at h
 split at h
 ·rename_i hf
  rw [flat_eq depth hf hx]
  exact ⟨v,(pureV_ok h w).1,VR.of_flat μ depth (pureV_ok h w).2⟩
 ·split at h
  ·rename_i e a len c hs hd _
   split at h
   ·rename_i he
    cases hr:rd H a.block a.off len with
    | none=>simp [hr] at h
    | some cs =>
     simp only [hr,Option.bind_some] at h
     cases hb:bytesOf cs with
     | none=>simp [hb] at h
     | some ns =>
      simp [hb] at h
      subst h
      have hcs:=bytesOf_eq cs ns hb
      have key:∃ A c',x'=.slice A len c'∧(Conv.bytesToString (.slice A len c')).run P w=.ok (.string (ns.foldl (fun r n=>r.push (UInt8.ofNat n.toNat)) ByteArray.empty)) w:=by
       have gen:∀ m,μ a.block=some m→(loadCells (m.addr a.off) len).run P w=.ok (ns.map (Value.int .u8)).toArray w:=fun m hm=>by
        obtain ⟨cs',h1,h2⟩:=loadCells_ok (P:=P) R hm hr
        rw [h2,hcs] at *
        rw [flats_eq h1 (ints_flat ns .u8)]
       have emp:∀ (A:Option Addr) c',len=0→(Conv.bytesToString (.slice A len c')).run P w=.ok (.string (ns.foldl (fun r n=>r.push (UInt8.ofNat n.toNat)) ByteArray.empty)) w:=fun A c' h0=>by
        subst h0
        obtain ⟨b,_,_,e0⟩:=rd_some hr
        have:ns=[]:=by simp at e0;rw [e0] at hcs;cases ns with | nil=>rfl | cons _ _=>simp at hcs
        subst this
        cases A with
        | none=>simp [Conv.bytesToString]
        | some A=>exact run_bytesToString w A 0 c' [] rfl
       generalize hq:len=q at hx
       generalize c=q2 at hx
       cases hx with
       | sliceE hs hc hm=>subst hq;exact ⟨_,_,rfl,run_bytesToString w _ _ _ ns (gen _ hm)⟩
       | sliceO hs hm hl hn=>subst hq;exact ⟨_,_,rfl,run_bytesToString w _ _ _ ns (gen _ hm)⟩
       | sliceE0 hs=>subst hq;exact ⟨_,_,rfl,emp _ _ rfl⟩
       | sliceO0 hs hm hl=>subst hq;exact ⟨_,_,rfl,emp _ _ rfl⟩
       | sliceR hs hm hn=>subst hq;exact ⟨_,_,rfl,run_bytesToString w _ _ _ ns (gen _ hm)⟩
       | sliceR0 hs=>subst hq;exact ⟨_,_,rfl,emp _ _ rfl⟩
       | sliceZ hs=>subst hq;exact ⟨_,_,rfl,emp _ _ rfl⟩
      obtain ⟨A,c',rfl,hl⟩:=key
      exact ⟨_,by rw [run_convert_bytes_string w s d e A len c' hs he hd,hl],.string _⟩
   ·cases h
  ·cases h
theorem keyFlat_eq {kd:TypeDesc} {k k':Value} (h:keyFlat kd k=true) (r:VR μ k k'):k'=k∧IsKey kd k:=by
 cases kd<;>cases k<;>simp [keyFlat] at h
 ·exact ⟨r.int',by simp [IsKey,h]⟩
 ·exact ⟨r.str,trivial⟩
theorem findNow_rel {kd:TypeDesc} {k:Value}:∀ (es es':List MapEntry) (i:Nat),es.length=es'.length→es.all (fun e=>keyFlat kd e.key)=true →
  (∀ (i:Nat) e e',es[i]?=some e→es'[i]?=some e'→VR μ e.key e'.key∧VR μ e.val e'.val∧e.born=e'.born) →
  (Instr.findNow kd k es i=some none→Instr.findNow kd k es' i=some none)∧(∀ j v,Instr.findNow kd k es i=some (some (j,v))→∃ v',Instr.findNow kd k es' i=some (some (j,v'))∧VR μ v v')
 | [],es',i,hl,_,_=>by
  have:es'=[]:=List.length_eq_zero_iff.1 hl.symm
  subst this
  exact ⟨fun h=>h,fun j v h=>by simp [Instr.findNow] at h⟩
 | e::es,es',i,hl,hk,hv=>by
  cases es' with
  | nil=>simp at hl
  | cons e' es' =>
   simp only [List.all_cons,Bool.and_eq_true] at hk
   obtain ⟨a,b,_⟩:=hv 0 e e' rfl rfl
   have hke:=(keyFlat_eq hk.1 a).1
   obtain ⟨ih1,ih2⟩:=findNow_rel es es' (i+1) (by simpa using hl) hk.2 (fun q x y hx hy=>hv (q+1) x y (by simpa using hx) (by simpa using hy))
   simp only [Instr.findNow,hke]
   cases Instr.sameNow kd k e.key with
   | none=>exact ⟨fun h=>by simp at h,fun j v h=>by simp at h⟩
   | some t =>
    cases t with
    | true=>exact ⟨fun h=>by simp at h,fun j v h=>by simp at h;obtain ⟨rfl,rfl⟩:=h;exact ⟨_,rfl,b⟩⟩
    | false=>exact ⟨ih1,ih2⟩
/-- What an operation comes to. -/
def OpR (base:Nat) (μ:Mp) (H:Mem) (w:World) (re:Re) (H':Mem) (r:Result Next):Prop :=
 match re with
 | .val v=>∃ μ' v' w',r=.ok (.value v') w'∧Stp base μ H w μ' H' w'∧VR μ' v v'
 | .skip=>∃ μ' w',r=.ok .skip w'∧Stp base μ H w μ' H' w'
 | .enter f args=>H'=H∧∃ args',r=.ok (.enter f args') w∧VRa μ args args'
theorem OpR.same (R:Rl base μ H w) {v v':Value} {r:Result Next} (h:r=.ok (.value v') w) (hv:VR μ v v'):OpR base μ H w (.val v) H r:=⟨μ,v',w,h,.refl R,hv⟩
structure EnvOk (E:Env):Prop where
 x:∀ f g args v,E.X f=some g→g args=some v→args.toList.all (flat depth)=true→∀ w,(callFunc f args).run E.P w=.ok (.value v) w∧flat depth v=true
 name : ∀ (f : FuncId) (fn : Func), E.P.funcs[f]? = some fn → fn.body.isSome = true → (fn.name == "runtime.NumGoroutine") = false
def okOp (nt:Nat) (o:Oper):Bool:=(match o.dst with | some d=>decide (d < nt) | none=>true) && o.op.operands.toList.all okO
theorem VRs.map {α:Type} {l:List α} {f g:α→Value} (h:∀ x∈l,VR μ (f x) (g x)):VRs μ (l.map f) (l.map g):=by
 induction l with
 | nil=>exact .nil μ
 | cons x l ih=>exact .cons (h x (.head _)) (ih fun y hy=>h y (.tail _ hy))
theorem zero_ok {z:Value} {t:TypeId} (h:tzero P t=some z):VR μ z z:=VR.of_flat μ depth (run_zero' h (default:World)).2
theorem upd_addr0 (R:Rl base μ H w) (m:MA) (hm:m.at_.spot=none) (h0:m.at_.off=0):VR (upd μ H.n m) (addrOf H.n 0) (.pointer (some m.at_)):=by
 have h:VR (upd μ H.n m) (.pointer (some ⟨H.n,0,none⟩)) (.pointer (some (m.addr 0))):=.ptr (a:=⟨H.n,0,none⟩) rfl (upd_same μ H.n m)
 have e:m.addr 0=m.at_:=by
  unfold MA.addr
  obtain ⟨⟨b,o,s⟩,l,e⟩:=m
  simp at hm h0
  simp [hm,h0]
 rw [e] at h
 exact h
theorem new_ok (R:Rl base μ H w) {cs cs':List Value} (e:Nat) (ty:TypeId) (h:VRs μ cs cs') :
  Stp base μ H w (upd μ H.n ⟨⟨w.heap.size,0,none⟩,cs'.length,e⟩) (H.new cs e) (w.alloc (.cells cs'.toArray ty)):=by
 have:=R.new e ty [] h
 simpa using this
theorem val_run {s:Sem Value} {v:Value} {w w':World} (h:s.run P w=.ok v w'):(do pure (Next.value (← s)):Sem Next).run P w=.ok (.value v) w':=by rw [Sem.run_bind,h];rfl
theorem run_buildSlice {t el:TypeId} {len e:Nat} {z:Value} {ps:List (Nat × Value)} {cs':Array Value} (hu:P.underlying t=some (.slice el)) (he:tsz P el=some e) (hz:tzero P el=some z) (hlen:len*e≤2 ^ 24)
  (h1:Instr.fill (fun i=>some (i*e,e)) ((Array.range (len*e)).map fun i=>(if len*e=0 then #[] else z.cells)[i % (if len*e=0 then #[] else z.cells).size]!) ps=some cs') :
  (Instr.buildSlice t len ps.toArray).run P w=.ok (.slice (some ⟨w.heap.size,0,none⟩) len len) (w.alloc (.cells cs' el)):=by
 have hgt:¬ (len*e > 2 ^ 24):=by omega
 by_cases h0:len*e=0
 ·simp only [h0,if_true] at h1
  have hgt0:¬ ((0:Nat) > 2 ^ 24):=by decide
  simp only [Instr.buildSlice,Sem.run_bind,run_underlying hu,Result.andThen_ok,run_size' he,h0,hgt0,if_false,if_true,Sem.run_pure,h1,newRow,run_newObj_alloc]
 ·simp only [h0,if_false] at h1
  simp only [Instr.buildSlice,Sem.run_bind,run_underlying hu,Result.andThen_ok,run_size' he,hgt,if_false,h0,Sem.run_pure,(run_zero' hz w).1,h1,newRow,run_newObj_alloc]
theorem eqNil_ok {t:TypeId} {x y x' y':Value} {b:Bool} (xo yo:Operand) (hx:VR μ x x') (hy:VR μ y y') (h:eqNil P t x y=some b) (w:World) :
  (do eqGuard .eql t xo yo x' y';binOp .eql t x' y':Sem Value).run P w=.ok (.bool b) w∧(do eqGuard .neq t xo yo x' y';binOp .neq t x' y':Sem Value).run P w=.ok (.bool (!b)) w:=by
 have fin:∀ (u v:Value),(eqGuard .eql t xo yo u v=pure ())→(eqGuard .neq t xo yo u v=pure ())→(binOp .eql t u v=do pure (.bool (← Op.equal t u v)))→(binOp .neq t u v=do pure (.bool (!(← Op.equal t u v)))) →
   (Op.equal t u v).run P w=.ok b w→(do eqGuard .eql t xo yo u v;binOp .eql t u v:Sem Value).run P w=.ok (.bool b) w∧(do eqGuard .neq t xo yo u v;binOp .neq t u v:Sem Value).run P w=.ok (.bool (!b)) w:=by
  intro u v h1 h2 h3 h4 h5
  rw [h1,h2,h3,h4]
  constructor<;>simp only [Sem.run_bind,Sem.run_pure,Result.andThen_ok,h5]
 obtain ⟨dd,eq1⟩:∃ d,∀ (u v:Value),Op.equal t u v=Op.equalIn (d+1) t u v:=⟨9999,fun _ _=>rfl⟩
 unfold eqNil at h
 split at h
 ·rename_i e n c bs n' c' hu
  split at h
  ·cases h
  rename_i hnb
  cases h
  rw [hx.slice_nil]
  obtain ⟨bs',c'',rfl⟩:=hy.slice_cases
  have hn:bs'.isNone=bs.isNone:=by cases hy<;>first | rfl | exact absurd ⟨rfl,rfl,by decide⟩ hnb
  refine fin _ _ rfl rfl rfl rfl ?_
  rw [eq1]
  simp only [Op.equalIn,Sem.run_bind,run_underlying hu,Result.andThen_ok,Sem.run_pure,hn]
 ·rename_i e bs n c n' c' hne hu
  split at h
  ·cases h
  rename_i hnb
  cases h
  rw [hy.slice_nil]
  obtain ⟨bs',c'',rfl⟩:=hx.slice_cases
  cases bs with
  | none=>exact absurd rfl hne
  | some q =>
   have hn:∃ q',bs'=some q':=by cases hx<;>first | exact ⟨_,rfl⟩ | exact absurd ⟨rfl,by decide⟩ hnb
   obtain ⟨q',rfl⟩:=hn
   refine fin _ _ rfl rfl rfl rfl ?_
   rw [eq1]
   simp only [Op.equalIn,Sem.run_bind,run_underlying hu,Result.andThen_ok,Sem.run_pure]
 ·rename_i e q hu
  cases h
  have:x'=.pointer none:=by cases hx;rfl
  subst this
  cases q with
  | none =>
   have:y'=.pointer none:=by cases hy;rfl
   subst this
   refine fin _ _ rfl rfl rfl rfl ?_
   rw [eq1]
   simp only [Op.equalIn,Sem.run_bind,run_underlying hu,Result.andThen_ok,Sem.run_pure]
  | some a =>
   obtain ⟨_,m,_,rfl⟩:=hy.ptr_some
   refine fin _ _ rfl rfl rfl rfl ?_
   rw [eq1]
   simp only [Op.equalIn,Sem.run_bind,run_underlying hu,Result.andThen_ok,Sem.run_pure]
   rfl
 ·rename_i e q hne hu
  cases h
  have:y'=.pointer none:=by cases hy;rfl
  subst this
  cases q with
  | none=>exact absurd rfl hne
  | some a =>
   obtain ⟨_,m,_,rfl⟩:=hx.ptr_some
   refine fin _ _ rfl rfl rfl rfl ?_
   rw [eq1]
   simp only [Op.equalIn,Sem.run_bind,run_underlying hu,Result.andThen_ok,Sem.run_pure]
 ·rename_i a1 a2 a3 f p q hu
  cases h
  obtain ⟨p',q',rfl,_,_⟩:=hx.fn
  have:y'=.nilFunc:=by cases hy;rfl
  subst this
  refine fin _ _ rfl rfl rfl rfl ?_
  rw [eq1]
  simp only [Op.equalIn,Sem.run_bind,run_underlying hu,Result.andThen_ok,Sem.run_pure]
 ·rename_i a1 a2 a3 f p q hu
  cases h
  obtain ⟨p',q',rfl,_,_⟩:=hy.fn
  have:x'=.nilFunc:=by cases hx;rfl
  subst this
  refine fin _ _ rfl rfl rfl rfl ?_
  rw [eq1]
  simp only [Op.equalIn,Sem.run_bind,run_underlying hu,Result.andThen_ok,Sem.run_pure]
 ·rename_i a1 a2 a3 hu
  cases h
  have:x'=.nilFunc:=by cases hx;rfl
  subst this
  have:y'=.nilFunc:=by cases hy;rfl
  subst this
  refine fin _ _ rfl rfl rfl rfl ?_
  rw [eq1]
  simp only [Op.equalIn,Sem.run_bind,run_underlying hu,Result.andThen_ok,Sem.run_pure]
 ·cases h
theorem lookup_run {t kt el:TypeId} {kd:TypeDesc} {x' k z:Value} {ok:Bool} {es':Array MapEntry} (hu:P.underlying t=some (.map kt el)) (hkd:P.underlying kt=some kd) (hk:IsKey kd k) (hz:tzero P el=some z)
  (hx:(x'=.map none∧es'=#[])∨∃ r c,x'=.map (some r)∧w.heap[r]?=some (.map es' c)) {f:Option (Nat × Value)} (hf:Instr.findNow kd k es'.toList 0=some f) :
  (Instr.lookup t x' k ok).run P w=.ok (if ok then .tuple #[(match f with | some (_,v)=>v | none=>z),.bool f.isSome] else (match f with | some (_,v)=>v | none=>z)) w:=by
 have hck:=fun b=>run_checkKey (P:=P) (w:=w) hkd hk b 9999
 have hzr:=(run_zero' hz w).1
 generalize hten:(10000:Nat)=ten at *
 rcases hx with ⟨rfl,rfl⟩ | ⟨r,c,rfl,hr⟩
 ·simp only [Instr.lookup,Sem.run_bind,run_underlying hu,Result.andThen_ok,Sem.run_pure]
  erw [hck]
  simp only [Result.andThen_ok,run_findKey hkd hf]
  cases f with
  | none=>simp [hzr]
  | some p=>obtain ⟨j,v⟩:=p;simp
 ·simp only [Instr.lookup,Sem.run_bind,run_underlying hu,Result.andThen_ok,Sem.run_pure,Go.MapKept.run_getObj_map hr]
  erw [hck]
  simp only [Result.andThen_ok,run_findKey hkd hf]
  cases f with
  | none=>simp [hzr]
  | some p=>obtain ⟨j,v⟩:=p;simp
theorem key_same {kd:TypeDesc} {k:Value} (h:keyFlat kd k=true) (n:Nat):Instr.sameBits (n+1) k k=true:=by
 cases kd<;>cases k<;>simp [keyFlat] at h
 ·simp [Instr.sameBits]
 ·simp [Instr.sameBits,bytes_beq]
theorem mapEntry_ok (R:Rl base μ H w) {t kt el:TypeId} {kd:TypeDesc} {r c:Nat} {m' k k' z:Value} {es:List MapEntry} {re:Re} (hu:P.underlying t=some (.map kt el)) (hkd:P.underlying kt=some kd) (hz:tzero P el=some z)
  (hm':VR μ (.map (some r)) m') (hk:VR μ k k') (hg:H.getMap r=some (es,c)) (hkf:keyFlat kd k=true) (hall:es.all (fun e=>keyFlat kd e.key)=true)
  (h:(match Instr.findNow kd k es 0 with
     | some (some (i,v)) =>
      match es[i]? with
      | some e=>some (Re.val (.tuple #[v,goInt e.born]),H.putMap r es c)
      | none=>none
     | some none=>some (Re.val (.tuple #[z,goInt c]),H.putMap r (es++[⟨k,z,c⟩]) (c+1))
     | none=>none)=some (re,H')) :
  ∃ v,re=.val v∧GoesV base μ H w v H' ((Instr.mapEntry t m' k').run P w):=by
 obtain ⟨hke,hisk⟩:=keyFlat_eq hkf hk
 subst hke
 have hmm:∃ m,μ r=some m∧m'=.map (some m.at_.block):=by cases hm' with | map hm=>exact ⟨_,hm,rfl⟩
 obtain ⟨m,hm,rfl⟩:=hmm
 have ho:=getMap_some hg
 obtain ⟨es',q1,q2,q3⟩:=(R.map r m es c hm ho).ex
 have hck:=run_checkKey (P:=P) (w:=w) hkd hisk false 9999
 obtain ⟨f1,f2⟩:=findNow_rel (kd:=kd) (k:=k') es es'.toList 0 (by simpa using q2) hall (fun i e e' h1 h2=>q3 i e e' h1 (by simpa using h2))
 have hset:∀ o:Obj,(setObj m.at_.block o).run P w=.ok () { w with heap:=w.heap.setIfInBounds m.at_.block o }:=fun o=>Go.MapKept.run_setObj_map o q1
 split at h
 ·rename_i i v hfn
  split at h
  ·rename_i e hei
   cases h
   obtain ⟨v',g1,g2⟩:=f2 i v hfn
   have hil:i < es'.size:=by rw [← q2];exact (List.getElem?_eq_some_iff.1 hei).1
   have hee:es'[i]?=some es'[i]:=Array.getElem?_eq_getElem hil
   obtain ⟨p1,p2,p3⟩:=q3 i e _ hei hee
   have hkk:es'[i].key=k':=by
    rcases findNow_spec hisk es'.toList 0 (fun x hx=>by
     obtain ⟨j,hj⟩:=List.mem_iff_getElem?.1 hx
     have hjl:j < es.length:=by rw [q2];have:=(List.getElem?_eq_some_iff.1 hj).1;simpa using this
     have hb:=q3 j _ x (List.getElem?_eq_getElem hjl) (by simpa using hj)
     have hf:=List.all_eq_true.1 hall _ (List.getElem_mem hjl)
     rw [(keyFlat_eq hf hb.1).1]
     exact (keyFlat_eq hf hb.1).2) with ⟨a1,_⟩ | ⟨j,e2,a1,a2,a3⟩
    ·rw [g1] at a1;cases a1
    ·rw [g1] at a1
     simp only [Option.some.injEq,Prod.mk.injEq] at a1
     obtain ⟨a1,_⟩:=a1
     rw [Nat.zero_add] at a1
     subst a1
     have:es'[i]?=some e2:=by simpa using a2
     rw [hee] at this
     cases this
     exact a3
   refine ⟨_,rfl,μ,.tuple #[v',goInt es'[i].born],{ w with heap:=w.heap.setIfInBounds m.at_.block (.map (es'.modify i fun e=>{ e with key:=k' }) c) },?_,?_,?_⟩
   ·have hsb:Instr.sameBits 10000 es'[i].key k'=true:=by rw [hkk];exact key_same hkf 9999
    have hkts:(Instr.keyThatStays es'[i].key k').run P w=.ok k' w:=by
     unfold Instr.keyThatStays
     rw [if_pos hsb]
     rfl
    generalize (10000:Nat)=ten at *
    simp only [Instr.mapEntry,Sem.run_bind,run_underlying hu,Result.andThen_ok,Go.MapKept.run_getObj_map q1]
    erw [hck]
    simp only [Result.andThen_ok,run_findKey hkd g1,Sem.run_bind,hee,Option.map_some,Option.getD_some,hkts,hset,Sem.run_pure]
   ·refine R.putMap hm ho (es':=es'.modify i fun e=>{ e with key:=k' }) (by simpa using q2) (fun j a b ha hb=>?_) rfl rfl rfl rfl
    rw [Array.getElem?_modify] at hb
    split at hb
    ·rename_i hij
     subst hij
     rw [hee] at hb
     simp only [Option.map_some,Option.some.injEq] at hb
     subst hb
     obtain ⟨x1,x2,x3⟩:=q3 i a _ ha hee
     exact ⟨by rw [← hkk];exact x1,x2,x3⟩
    ·exact q3 j a b ha hb
   ·refine .tuple rfl fun q x y hx hy=>?_
    match q with
    | 0=>simp at hx hy;subst hx;subst hy;exact g2
    | 1=>simp at hx hy;subst hx;subst hy;rw [p3];exact .int _ _
    | q+2=>simp at hx
  ·cases h
 ·rename_i hfn
  cases h
  refine ⟨_,rfl,μ,.tuple #[z,goInt c],{ w with heap:=w.heap.setIfInBounds m.at_.block (.map (es'.push ⟨k',z,c⟩) (c+1)) },?_,?_,?_⟩
  ·have hzr:=(run_zero' hz w).1
   generalize (10000:Nat)=ten at *
   simp only [Instr.mapEntry,Sem.run_bind,run_underlying hu,Result.andThen_ok,Go.MapKept.run_getObj_map q1]
   erw [hck]
   simp only [Result.andThen_ok,run_findKey hkd (f1 hfn),Sem.run_bind,hzr,hset,Sem.run_pure]
  ·refine R.putMap hm ho (es':=es'.push ⟨k',z,c⟩) (by simp [q2]) (fun j a b ha hb=>?_) rfl rfl rfl rfl
   rw [Array.getElem?_push] at hb
   rw [List.getElem?_append] at ha
   by_cases hj:j < es.length
   ·rw [if_pos hj] at ha
    rw [if_neg (by omega)] at hb
    exact q3 j a b ha hb
   ·rw [if_neg hj] at ha
    split at hb
    ·rename_i hjj
     have:j - es.length=0:=by omega
     rw [this] at ha
     simp at ha hb
     subst ha;subst hb
     exact ⟨hk,zero_ok hz,rfl⟩
    ·have:=(Array.getElem?_eq_some_iff.1 hb).1;omega
  ·refine .tuple rfl fun q x y hx hy=>?_
   match q with
   | 0=>simp at hx hy;subst hx;subst hy;exact zero_ok hz
   | 1=>simp at hx hy;subst hx;subst hy;exact .int _ _
   | q+2=>simp at hx
 ·cases h
theorem mapUpdate_ok (R:Rl base μ H w) {t kt el:TypeId} {kd:TypeDesc} {r c:Nat} {m' k k' x x':Value} {es:List MapEntry} {re:Re} (hu:P.underlying t=some (.map kt el)) (hkd:P.underlying kt=some kd)
  (hm':VR μ (.map (some r)) m') (hk:VR μ k k') (hx:VR μ x x') (hg:H.getMap r=some (es,c)) (hkf:keyFlat kd k=true) (hall:es.all (fun e=>keyFlat kd e.key)=true)
  (h:(match Instr.findNow kd k es 0 with
     | some (some (i,_))=>some (Re.skip,H.putMap r (es.modify i fun e=>{ e with val:=x }) c)
     | some none=>some (Re.skip,H.putMap r (es++[⟨k,x,c⟩]) (c+1))
     | none=>none)=some (re,H')) :
  re=.skip∧∃ w',(Instr.mapUpdate t m' k' x').run P w=.ok () w'∧Stp base μ H w μ H' w':=by
 obtain ⟨hke,hisk⟩:=keyFlat_eq hkf hk
 subst hke
 have hmm:∃ m,μ r=some m∧m'=.map (some m.at_.block):=by cases hm' with | map hm=>exact ⟨_,hm,rfl⟩
 obtain ⟨m,hm,rfl⟩:=hmm
 have ho:=getMap_some hg
 obtain ⟨es',q1,q2,q3⟩:=(R.map r m es c hm ho).ex
 have hck:=run_checkKey (P:=P) (w:=w) hkd hisk false 9999
 obtain ⟨f1,f2⟩:=findNow_rel (kd:=kd) (k:=k') es es'.toList 0 (by simpa using q2) hall (fun i e e' h1 h2=>q3 i e e' h1 (by simpa using h2))
 have hset:∀ o:Obj,(setObj m.at_.block o).run P w=.ok () { w with heap:=w.heap.setIfInBounds m.at_.block o }:=fun o=>Go.MapKept.run_setObj_map o q1
 split at h
 ·rename_i i v hfn
  cases h
  obtain ⟨v',g1,g2⟩:=f2 i v hfn
  have hkeys:∀ y∈es'.toList,IsKey kd y.key:=fun y hy=>by
   obtain ⟨j,hj⟩:=List.mem_iff_getElem?.1 hy
   have hjl:j < es.length:=by rw [q2];have:=(List.getElem?_eq_some_iff.1 hj).1;simpa using this
   have hb:=q3 j _ y (List.getElem?_eq_getElem hjl) (by simpa using hj)
   have hf:=List.all_eq_true.1 hall _ (List.getElem_mem hjl)
   rw [(keyFlat_eq hf hb.1).1]
   exact (keyFlat_eq hf hb.1).2
  have hspec:∃ e2,es'[i]?=some e2∧e2.key=k':=by
   rcases findNow_spec hisk es'.toList 0 hkeys with ⟨a1,_⟩ | ⟨j,e2,a1,a2,a3⟩
   ·rw [g1] at a1;cases a1
   ·rw [g1] at a1
    simp only [Option.some.injEq,Prod.mk.injEq] at a1
    obtain ⟨a1,_⟩:=a1
    rw [Nat.zero_add] at a1
    subst a1
    exact ⟨e2,by simpa using a2,a3⟩
  obtain ⟨e2,hee,hkk⟩:=hspec
  have hil:i < es'.size:=(Array.getElem?_eq_some_iff.1 hee).1
  refine ⟨rfl,{ w with heap:=w.heap.setIfInBounds m.at_.block (.map (es'.modify i fun e=>{ e with key:=k',val:=x' }) c) },?_,?_⟩
  ·have hsb:Instr.sameBits 10000 e2.key k'=true:=by rw [hkk];exact key_same hkf 9999
   have hkts:(Instr.keyThatStays e2.key k').run P w=.ok k' w:=by
    unfold Instr.keyThatStays
    rw [if_pos hsb]
    rfl
   generalize (10000:Nat)=ten at *
   simp only [Instr.mapUpdate,Sem.run_bind,run_underlying hu,Result.andThen_ok,Go.MapKept.run_getObj_map q1]
   erw [hck]
   simp only [Result.andThen_ok,run_findKey hkd g1,Sem.run_bind,hee,Option.map_some,Option.getD_some,hkts,hset]
  ·refine R.putMap hm ho (es':=es'.modify i fun e=>{ e with key:=k',val:=x' }) (by simpa using q2) (fun j a b ha hb=>?_) rfl rfl rfl rfl
   rw [Array.getElem?_modify] at hb
   rw [List.getElem?_modify] at ha
   by_cases hij:i=j
   ·subst hij
    have hl:i < es.length:=by omega
    rw [List.getElem?_eq_getElem hl] at ha
    rw [if_pos rfl,hee] at hb
    simp at ha hb
    subst ha;subst hb
    obtain ⟨x1,x2,x3⟩:=q3 i _ _ (List.getElem?_eq_getElem hl) hee
    exact ⟨by rw [← hkk];exact x1,hx,x3⟩
   ·rw [if_neg hij] at hb
    simp only [hij,if_false,id] at ha
    simp at ha
    exact q3 j a b ha hb
 ·rename_i hfn
  cases h
  refine ⟨rfl,{ w with heap:=w.heap.setIfInBounds m.at_.block (.map (es'.push ⟨k',x',c⟩) (c+1)) },?_,?_⟩
  ·generalize (10000:Nat)=ten at *
   simp only [Instr.mapUpdate,Sem.run_bind,run_underlying hu,Result.andThen_ok,Go.MapKept.run_getObj_map q1]
   erw [hck]
   simp only [Result.andThen_ok,run_findKey hkd (f1 hfn),Sem.run_bind,hset]
  ·refine R.putMap hm ho (es':=es'.push ⟨k',x',c⟩) (by simp [q2]) (fun j a b ha hb=>?_) rfl rfl rfl rfl
   rw [Array.getElem?_push] at hb
   rw [List.getElem?_append] at ha
   by_cases hj:j < es.length
   ·rw [if_pos hj] at ha
    rw [if_neg (by omega)] at hb
    exact q3 j a b ha hb
   ·rw [if_neg hj] at ha
    split at hb
    ·rename_i hjj
     have:j - es.length=0:=by omega
     rw [this] at ha
     simp at ha hb
     subst ha;subst hb
     exact ⟨hk,hx,rfl⟩
    ·have:=(Array.getElem?_eq_some_iff.1 hb).1;omega
 ·cases h
theorem findIdx_born:∀ (es es':List MapEntry) (b:Nat),es.map (·.born)=es'.map (·.born)→es'.findIdx? (fun e=>(e.born:Int) == (b:Int))=es.findIdx? (fun e=>e.born == b)
 | [],es',b,h=>by
  cases es' with
  | nil=>rfl
  | cons _ _=>simp at h
 | e::es,es',b,h=>by
  cases es' with
  | nil=>simp at h
  | cons e' es' =>
   simp only [List.map_cons,List.cons.injEq] at h
   simp only [List.findIdx?_cons,findIdx_born es es' b h.2,h.1]
   have:((e'.born:Int) == (b:Int))=(e'.born == b):=by rw [Bool.eq_iff_iff];simp only [beq_iff_eq];omega
   rw [this]
theorem entryStore_ok (R:Rl base μ H w) {t:TypeId} {r c born i:Nat} {m' s s' x x':Value} {es:List MapEntry} (hm':VR μ (.map (some r)) m') (hs:VR μ s s') (hx:VR μ x x') (hg:H.getMap r=some (es,c)) (hb:idx s=some born)
  (hi:es.findIdx? (fun e=>e.born == born)=some i):∃ w',(Instr.entryStore t m' s' x').run P w=.ok () w'∧Stp base μ H w μ (H.putMap r (es.modify i fun e=>{ e with val:=x }) c) w':=by
 have hmm:∃ m,μ r=some m∧m'=.map (some m.at_.block):=by cases hm' with | map hm=>exact ⟨_,hm,rfl⟩
 obtain ⟨m,hm,rfl⟩:=hmm
 have ho:=getMap_some hg
 obtain ⟨es',q1,q2,q3⟩:=(R.map r m es c hm ho).ex
 obtain ⟨ks,rfl⟩:=idx_int hb
 have hs2:=hs.int'
 subst hs2
 have hset:∀ o:Obj,(setObj m.at_.block o).run P w=.ok () { w with heap:=w.heap.setIfInBounds m.at_.block o }:=fun o=>Go.MapKept.run_setObj_map o q1
 have hbn:es.map (·.born)=es'.toList.map (·.born):=by
  apply List.ext_getElem?
  intro j
  rw [List.getElem?_map,List.getElem?_map]
  by_cases hj:j < es.length
  ·rw [List.getElem?_eq_getElem hj,List.getElem?_eq_getElem (by simpa [← q2] using hj)]
   simp only [Option.map_some]
   rw [(q3 j _ _ (List.getElem?_eq_getElem hj) (Array.getElem?_eq_getElem (by omega))).2.2]
   simp
  ·rw [List.getElem?_eq_none (by omega),List.getElem?_eq_none (by simp;omega)]
 have hfi:es'.findIdx? (fun e=>(e.born:Int) == (born:Int))=some i:=by
  have:=findIdx_born es es'.toList born hbn
  rw [hi] at this
  cases es' with
  | mk l=>simpa using this
 refine ⟨{ w with heap:=w.heap.setIfInBounds m.at_.block (.map (es'.modify i fun e=>{ e with val:=x' }) c) },?_,R.putMap hm ho (es':=es'.modify i fun e=>{ e with val:=x' }) (by simpa using q2) (fun j a b ha hb=>?_) rfl rfl rfl rfl⟩
 ·simp only [Instr.entryStore,Sem.run_bind,Go.MapKept.run_getObj_map q1,Result.andThen_ok,asInt,asIntOf,Sem.run_pure,hfi,hset]
 ·rw [Array.getElem?_modify] at hb
  rw [List.getElem?_modify] at ha
  by_cases hij:i=j
  ·subst hij
   have hl:i < es.length:=by
    rcases Nat.lt_or_ge i es.length with h | h
    ·exact h
    ·rw [List.getElem?_eq_none h] at ha;simp at ha
   rw [List.getElem?_eq_getElem hl] at ha
   rw [if_pos rfl,Array.getElem?_eq_getElem (by omega)] at hb
   simp at ha hb
   subst ha;subst hb
   obtain ⟨x1,x2,x3⟩:=q3 i _ _ (List.getElem?_eq_getElem hl) (Array.getElem?_eq_getElem (by omega))
   exact ⟨x1,hx,x3⟩
  ·rw [if_neg hij] at hb
   simp only [hij,if_false,id] at ha
   simp at ha
   exact q3 j a b ha hb
theorem inert_ok (E:Env) {T:Tr Value} {a:Act} {o:Oper} (hnt:inert o=true) (ev0:∀ x,x∈o.op.operands→VR μ (evalO T x) (a.eval x)) {re:Re} (h:opStep E T H o=some (re,H')) :
  ∃ v v',re=.val v∧H'=H∧(execOp a.eval o).run E.P w=.ok (.value v') w∧VR μ v v':=by
 obtain ⟨dst,op,type,pos,after,guard⟩:=o
 have ev:∀ x,x∈op.operands→VR μ (evalO T x) (a.eval x):=ev0
 clear ev0
 have done:∀ {v v':Value} {r:Result Next},r=.ok (.value v') w→VR μ v v'→∃ u u',Re.val v=.val u∧H=H∧r=.ok (.value u') w∧VR μ u u':=fun h hv=>⟨_,_,rfl,rfl,h,hv⟩
 cases op
 all_goals first
  | (simp [inert] at hnt;done)
  | skip
 all_goals clear hnt
 all_goals simp only [opStep] at h
 case move x=>cases h;exact done rfl (ev x (by simp [Op.operands]))
 case assign x=>cases h;exact done rfl (ev x (by simp [Op.operands]))
 case pick c x y =>
  have hc:=ev c (by simp [Op.operands])
  split at h
  ·rename_i t ht
   cases h
   rw [ht] at hc
   have hc':=hc.bool'
   refine done (v':=if t then a.eval x else a.eval y) (by simp [execOp,asBool,hc']) ?_
   cases t
   ·exact ev y (by simp [Op.operands])
   ·exact ev x (by simp [Op.operands])
  ·cases h
 case build t ps =>
  cases hb:buildV E.P t (ps.toList.map fun p=>(p.1,evalO T p.2)) with
  | none=>simp [hb] at h
  | some v =>
   simp [hb] at h
   obtain ⟨rfl,rfl⟩:=h
   obtain ⟨v',h1,h2⟩:=buildV_ok (P:=E.P) (μ:=μ) (w:=w) (ps':=ps.toList.map fun p=>(p.1,a.eval p.2)) (by simp) (by
    simp only [List.map_map]
    exact VRs.map fun p hp=>ev p.2 (by simp [Op.operands];exact ⟨p.1,Array.mem_toList_iff.1 hp⟩)) hb
   refine done (v':=v') ?_ h2
   have e:(ps.map fun p=>(p.1,a.eval p.2))=(ps.toList.map fun p=>(p.1,a.eval p.2)).toArray:=by apply Array.ext';simp
   have h1':(Instr.build t (ps.map fun p=>(p.1,a.eval p.2))).run E.P w=.ok v' w:=by rw [e];exact h1
   simp [execOp,h1']
 case nilCheck x =>
  have hx:=ev x (by simp [Op.operands])
  split at h
  ·rename_i ad hv
   cases h
   rw [hv] at hx
   obtain ⟨hs,m,hm,he⟩:=hx.ptr_some
   exact done (by simp [execOp,he];rfl) (by rw [he] at hx;exact hx)
  ·rename_i f p q hv
   cases h
   rw [hv] at hx
   obtain ⟨p',q',he,h1,h2⟩:=hx.fn
   exact done (by simp [execOp,he];rfl) (by rw [he] at hx;exact hx)
  ·cases h
 case binOp bop t x y yt =>
  have hx:=ev x (by simp [Op.operands])
  have hy:=ev y (by simp [Op.operands])
  cases hb:binV E.P bop t x y (evalO T x) (evalO T y) with
  | none=>simp [hb] at h
  | some v =>
   simp [hb] at h
   obtain ⟨rfl,rfl⟩:=h
   unfold binV at hb
   split at hb
   ·rename_i hf
    simp only [Bool.and_eq_true] at hf
    rw [← flat_eq depth hf.1 hx,← flat_eq depth hf.2 hy] at hb
    obtain ⟨h1,h2⟩:=pureV_ok hb w
    exact done (val_run h1) (VR.of_flat μ depth h2)
   ·-- one of them is nil
    split at hb
    ·cases hq:eqNil E.P t (evalO T x) (evalO T y) with
     | none=>simp [hq] at hb
     | some b =>
      simp [hq] at hb;subst hb
      exact done (val_run (eqNil_ok x y hx hy hq w).1) (.bool _)
    ·cases hq:eqNil E.P t (evalO T x) (evalO T y) with
     | none=>simp [hq] at hb
     | some b =>
      simp [hq] at hb;subst hb
      exact done (val_run (eqNil_ok x y hx hy hq w).2) (.bool _)
    ·cases hb
 case unOp uop t x =>
  have hx:=ev x (by simp [Op.operands])
  split at h
  ·rename_i hf
   cases hb:pureV E.P (Op.unary uop (evalO T x)) with
   | none=>simp [hb] at h
   | some v =>
    simp [hb] at h
    obtain ⟨rfl,rfl⟩:=h
    rw [← flat_eq depth hf hx] at hb
    obtain ⟨h1,h2⟩:=pureV_ok hb w
    exact done (val_run h1) (VR.of_flat μ depth h2)
  ·cases h
 case makeInterface t x =>
  have hx:=ev x (by simp [Op.operands])
  split at h
  ·cases h
  ·rename_i d hne hu
   cases h
   refine done (v':=.iface t (a.eval x)) (val_run ?_) (.iface t hx)
   simp only [Instr.makeInterface,Sem.run_bind,run_underlying hu,Result.andThen_ok]
   cases d<;>first | rfl | exact absurd hu (hne _)
  ·cases h
 case makeFunc fn f c =>
  cases h
  refine done (v':=.func fn (f.map a.eval) (c.map a.eval)) rfl (.func' fn ?_ ?_)
  ·unfold VRa
   simp only [Array.toList_map]
   exact VRs.map fun x hx=>ev x (by simp only [Op.operands,Array.mem_append];exact .inl (Array.mem_toList_iff.1 hx))
  ·unfold VRa
   simp only [Array.toList_map]
   exact VRs.map fun x hx=>ev x (by simp only [Op.operands,Array.mem_append];exact .inr (Array.mem_toList_iff.1 hx))
 case fieldAddr s x f =>
  have hx:=ev x (by simp [Op.operands])
  split at h
  ·rename_i fs ad hu hv
   rw [hv] at hx
   obtain ⟨hs,m,hm,he⟩:=hx.ptr_some
   split at h
   ·rename_i fd hfd
    split at h
    ·rename_i k hk
     split at h
     ·cases h
     ·rename_i hk0
      cases h
      refine done (v':=.pointer (some (m.addr (ad.off+fd.offset)))) (val_run ?_) (.ptr (a:=⟨ad.block,ad.off+fd.offset,none⟩) rfl hm)
      simp only [Instr.fieldAt,Sem.run_bind,run_underlying hu,Result.andThen_ok,hfd,he,Instr.sureAddr,Sem.run_pure,fieldPlace,run_size' hk,hk0,if_false,addr_add]
    ·cases h
   ·cases h
  ·cases h
 case field t x f =>
  have hx:=ev x (by simp [Op.operands])
  split at h
  ·rename_i fs cs hu hv
   rw [hv] at hx
   obtain ⟨cs',he,hc⟩:=hx.of_agg
   split at h
   ·rename_i fd hfd
    cases hp:partV E.P fd.type cs fd.offset with
    | none=>simp [hp] at h
    | some v =>
     simp [hp] at h
     obtain ⟨rfl,rfl⟩:=h
     obtain ⟨v',h1,h2⟩:=partV_ok (P:=E.P) (w:=w) hc hp
     refine done (val_run (v:=v') ?_) h2
     simp only [Instr.field,Sem.run_bind,run_underlying hu,Result.andThen_ok,hfd,he,asAgg,Sem.run_pure,h1]
   ·cases h
  ·cases h
 case indexAddr t x i =>
  have hx:=ev x (by simp [Op.operands])
  have hi:=ev i (by simp [Op.operands])
  split at h
  ·rename_i el ad len c n hu hv hn
   rw [hv] at hx
   obtain ⟨ki,hi1⟩:=idx_int hn
   have hi2:a.eval i=.int ki n:=by rw [hi1] at hi;exact hi.int'
   split at h
   ·rename_i e he
    split at h
    ·rename_i hlt
     cases h
     have hx':∃ m c',μ ad.block=some m∧a.eval x=.slice (some (m.addr ad.off)) len c':=by
      generalize hq:a.eval x=q at hx
      generalize c=q2 at hx
      generalize hl:len=ln at hx
      cases hx with
      | sliceE hs hc hm=>exact ⟨_,_,hm,rfl⟩
      | sliceO hs hm hl hn=>exact ⟨_,_,hm,rfl⟩
      | sliceE0 hs=>omega
      | sliceO0 hs hm hl=>omega
      | sliceR hs hm hn=>exact ⟨_,_,hm,rfl⟩
      | sliceR0 hs=>omega
      | sliceZ hs=>omega
     obtain ⟨m,c',hm,he'⟩:=hx'
     refine done (v':=.pointer (some (m.addr (ad.off+n*e)))) (val_run ?_) (.ptr (a:=⟨ad.block,ad.off+n*e,none⟩) rfl hm)
     have hb:(0:Int)≤(n:Int)∧(n:Int) < (len:Int):=by omega
     rw [hi2,he']
     simp only [Instr.indexAt,Sem.run_bind,asIntOf,Sem.run_pure,Result.andThen_ok,run_underlying hu,hb,and_self,if_true,run_size' he,Int.toNat_natCast,addr_add]
    ·cases h
   ·cases h
  ·rename_i len el ad n hu hv hn
   rw [hv] at hx
   obtain ⟨hs,m,hm,he'⟩:=hx.ptr_some
   obtain ⟨ki,hi1⟩:=idx_int hn
   have hi2:a.eval i=.int ki n:=by rw [hi1] at hi;exact hi.int'
   split at h
   ·rename_i e he
    split at h
    ·rename_i hlt
     cases h
     refine done (v':=.pointer (some (m.addr (ad.off+n*e)))) (val_run ?_) (.ptr (a:=⟨ad.block,ad.off+n*e,none⟩) rfl hm)
     have hb:(0:Int)≤(n:Int)∧(n:Int) < (len:Int):=by omega
     rw [hi2,he']
     simp only [Instr.indexAt,Sem.run_bind,asIntOf,Sem.run_pure,Result.andThen_ok,run_underlying hu,Instr.sureAddr,hb,and_self,if_true,run_size' he,Int.toNat_natCast,addr_add]
    ·cases h
   ·cases h
  ·cases h
 case index t x i =>
  have hx:=ev x (by simp [Op.operands])
  have hi:=ev i (by simp [Op.operands])
  split at h
  ·rename_i len el cs n hu hv hn
   rw [hv] at hx
   obtain ⟨cs',he',hc⟩:=hx.of_agg
   obtain ⟨ki,hi1⟩:=idx_int hn
   have hi2:a.eval i=.int ki n:=by rw [hi1] at hi;exact hi.int'
   split at h
   ·rename_i e he
    split at h
    ·rename_i hlt
     cases hp:partV E.P el cs (n*e) with
     | none=>simp [hp] at h
     | some v =>
      simp [hp] at h
      obtain ⟨rfl,rfl⟩:=h
      obtain ⟨v',h1,h2⟩:=partV_ok (P:=E.P) (w:=w) hc hp
      refine done (val_run (v:=v') ?_) h2
      have hb:(0:Int)≤(n:Int)∧(n:Int) < (len:Int):=by omega
      rw [hi2,he']
      simp only [Instr.index,Sem.run_bind,asIntOf,Sem.run_pure,Result.andThen_ok,run_underlying hu,hb,and_self,if_true,run_size' he,Int.toNat_natCast,h1]
    ·cases h
   ·cases h
  ·rename_i s n hu hv hn
   rw [hv] at hx
   have he':=hx.str
   obtain ⟨ki,hi1⟩:=idx_int hn
   have hi2:a.eval i=.int ki n:=by rw [hi1] at hi;exact hi.int'
   cases hs:s[n]? with
   | none=>simp [hs] at h
   | some b =>
    simp [hs] at h
    obtain ⟨rfl,rfl⟩:=h
    refine done (val_run (v:=.int .u8 b.toNat) ?_) (.int _ _)
    have hb:(0:Int)≤(n:Int):=by omega
    rw [hi2,he']
    simp only [Instr.index,Sem.run_bind,asIntOf,Sem.run_pure,Result.andThen_ok,run_underlying hu,hb,if_true,Int.toNat_natCast,hs]
  ·cases h
 case extract x i =>
  have hx:=ev x (by simp [Op.operands])
  split at h
  ·rename_i vs hv
   rw [hv] at hx
   obtain ⟨vs',he,hvs⟩:=hx.of_tuple
   cases hi:vs[i]? with
   | none=>simp [hi] at h
   | some v =>
    simp [hi] at h
    obtain ⟨rfl,rfl⟩:=h
    have hl:i < vs'.size:=by rw [← hvs.size];exact (Array.getElem?_eq_some_iff.1 hi).1
    refine done (val_run (v:=vs'[i]) ?_) (hvs.at i _ _ hi (Array.getElem?_eq_getElem hl))
    simp [Instr.extract,he,hl]
  ·cases h
theorem opStep_ok (E:Env) (hE:EnvOk E) (R:Rl base μ H w) {T:Tr Value} {a:Act} {o:Oper} (ev0:∀ x,x∈o.op.operands→VR μ (evalO T x) (a.eval x)) {re:Re} (h:opStep E T H o=some (re,H')) :
  OpR base μ H w re H' ((execOp a.eval o).run E.P w):=by
 by_cases hnt:inert o=true
 ·obtain ⟨v,v',rfl,rfl,h1,h2⟩:=inert_ok (w:=w) E hnt ev0 h
  exact .same R h1 h2
 obtain ⟨dst,op,type,pos,after,guard⟩:=o
 have ev:∀ x,x∈op.operands→VR μ (evalO T x) (a.eval x):=ev0
 clear ev0
 cases op
 all_goals first
  | (exact absurd rfl hnt)
  | skip
 all_goals clear hnt
 all_goals simp only [opStep] at h
 case alloc t =>
  cases hz:tzero E.P t with
  | none=>simp [hz] at h
  | some z =>
   simp [hz] at h
   obtain ⟨rfl,rfl⟩:=h
   have S:=new_ok R 0 t (zero_ok (P:=E.P) hz).cells
   refine ⟨_,_,_,?_,S,upd_addr0 R ⟨⟨w.heap.size,0,none⟩,z.cells.toList.length,0⟩ rfl rfl⟩
   simp [execOp,Instr.alloc,(run_zero' hz w).1,newVar,newRow,run_newObj_alloc]
 case box t x =>
  cases h
  have hv:=ev x (by simp [Op.operands])
  have S:=new_ok R 0 t hv.cells
  refine ⟨_,_,_,?_,S,upd_addr0 R ⟨⟨w.heap.size,0,none⟩,(a.eval x).cells.toList.length,0⟩ rfl rfl⟩
  simp [execOp,Instr.box,newVar,newRow,run_newObj_alloc]
 case buildSlice t len ps =>
  split at h
  ·cases h
  ·rename_i el hel
   split at h
   ·rename_i e z he hz
    split at h
    ·rename_i hlen
     split at h
     ·rename_i cs hf
      cases h
      have hz':VRa μ (if len*e=0 then #[] else z.cells) (if len*e=0 then #[] else z.cells):=by
       split
       ·exact ⟨rfl,fun i x y h=>by simp at h⟩
       ·exact (zero_ok (P:=E.P) hz).cells
      have hz2:VRa μ ((Array.range (len*e)).map fun i=>(if len*e=0 then #[] else z.cells)[i % (if len*e=0 then #[] else z.cells).size]!) ((Array.range (len*e)).map fun i=>(if len*e=0 then #[] else z.cells)[i % (if len*e=0 then #[] else z.cells).size]!):=by
       refine .mk rfl fun i x y hx hy=>?_
       rw [hx] at hy;cases hy
       by_cases h0:len*e=0
       ·simp [h0] at hx
       ·simp only [h0,if_false] at hx
        have hm:x∈zerosOf z.cells (len*e):=by
         unfold zerosOf
         exact Array.mem_toList_iff.2 (Array.mem_of_getElem? hx)
        exact VR.of_flat μ depth (zerosOf_flat (run_zero' (P:=E.P) hz w).2 _ x hm)
      obtain ⟨cs',h1,h2⟩:=fill_ok (μ:=μ) (fun i=>some (i*e,e)) _ (ps.toList.map fun p=>(p.1,a.eval p.2)) _ _ cs (by simp) (by
       simp only [List.map_map]
       exact VRs.map fun p hp=>ev p.2 (by simp [Op.operands];exact ⟨p.1,Array.mem_toList_iff.1 hp⟩)) hz2 hf
      have S:=new_ok R 0 el h2
      refine ⟨_,.slice (some ⟨w.heap.size,0,none⟩) len len,_,?_,S,?_⟩
      ·have e1:(ps.map fun p=>(p.1,a.eval p.2))=(ps.toList.map fun p=>(p.1,a.eval p.2)).toArray:=by apply Array.ext';simp
       have hr:=run_buildSlice (P:=E.P) (w:=w) (elemT_some hel) he hz hlen.1 h1
       rw [← e1] at hr
       have:=val_run hr
       simpa [execOp] using this
      ·exact .sliceE (a:=⟨H.n,0,none⟩) rfl (by have:=room_lt;unfold OPEN;omega) (upd_same μ H.n _)
     ·cases h
    ·cases h
   ·cases h
 case load t x =>
  have hx:=ev x (by simp [Op.operands])
  split at h
  ·rename_i ad hv
   rw [hv] at hx
   obtain ⟨hs,m,hm,he⟩:=hx.ptr_some
   cases hl:loadV E.P H t ad with
   | none=>simp [hl] at h
   | some v =>
    simp [hl] at h
    obtain ⟨rfl,rfl⟩:=h
    obtain ⟨v',h1,h2⟩:=loadV_ok (P:=E.P) R hm hl
    exact .same R (by simp [execOp,Instr.loadAt,Instr.sureAddr,he,h1]) h2
  ·cases h
 case store t x y =>
  have hx:=ev x (by simp [Op.operands])
  have hy:=ev y (by simp [Op.operands])
  split at h
  ·rename_i ad hv
   rw [hv] at hx
   obtain ⟨hs,m,hm,he⟩:=hx.ptr_some
   cases hl:storeV E.P H t ad (evalO T y) with
   | none=>simp [hl] at h
   | some H1 =>
    simp [hl] at h
    obtain ⟨rfl,rfl⟩:=h
    obtain ⟨w',h1,h2⟩:=storeV_ok (P:=E.P) R hm hy hl
    exact ⟨μ,w',by simp [execOp,Instr.storeAt,Instr.sureAddr,he,h1],h2⟩
  ·cases h
 case convert s d x =>
  have hx:=ev x (by simp [Op.operands])
  cases hb:convV E.P H s d (evalO T x) with
  | none=>simp [hb] at h
  | some v =>
   simp [hb] at h
   obtain ⟨rfl,rfl⟩:=h
   obtain ⟨v',h1,h2⟩:=convV_ok (P:=E.P) R hx hb
   exact .same R (val_run h1) h2
 case makeMap t r =>
  cases r with
  | some r=>simp [opStep] at h
  | none =>
   simp only [opStep] at h
   cases h
   have S:=R.newMap
   refine ⟨_,.map (some w.heap.size),_,val_run ?_,S,?_⟩
   ·simp [Instr.makeMap,run_newObj_alloc]
   ·exact .map (m:=⟨⟨w.heap.size,0,none⟩,0,0⟩) (upd_same μ H.n _)
 case makeSlice t l c =>
  have hl:=ev l (by simp [Op.operands])
  have hc:=ev c (by simp [Op.operands])
  split at h
  ·rename_i el ln cp hel hil hic
   split at h
   ·rename_i e z bytes he hz hb
    split at h
    ·rename_i hcond
     obtain ⟨c1,c2,c3⟩:=hcond
     cases h
     obtain ⟨kl,hl1⟩:=idx_int hil
     obtain ⟨kc,hc1⟩:=idx_int hic
     have hl2:a.eval l=.int kl ln:=by rw [hl1] at hl;exact hl.int'
     have hc2:a.eval c=.int kc cp:=by rw [hc1] at hc;exact hc.int'
     have hmr:mkRoom=281474976710656:=rfl
     obtain ⟨inf,hin⟩:∃ i,E.P.info? el=some i:=by
      unfold tsz at he
      cases hi:E.P.info? el with
      | none=>simp [hi] at he
      | some i=>exact ⟨i,rfl⟩
     have hti:∀ w,(typeInfo el).run E.P w=.ok inf w:=fun w=>by simp [typeInfo,hin]
     have hby:inf.bytes=bytes:=by unfold tbytes at hb;simpa [hin] using hb
     have hwl:IntKind.i64.wrap (ln:Int)=ln:=IntWalk.i64_in _ (by omega)
     have hwc:IntKind.i64.wrap (cp:Int)=cp:=IntWalk.i64_in _ (by omega)
     have htl:(decide ((cp:Int) < 0) || decide ((inf.bytes:Int)*(cp:Int) > 2 ^ 48))=false:=by
      rw [hby,← Int.natCast_mul,Nat.mul_comm bytes cp]
      generalize cp*bytes=q at c3
      simp only [Bool.or_eq_false_iff,decide_eq_false_iff_not]
      omega
     have hneg:¬ ((ln:Int) < 0):=by omega
     have hgt:¬ ((ln:Int) > cp):=by omega
     have S:=new_ok R 0 el (VRs.of_flats (μ:=μ) (zerosOf_flat (run_zero' (P:=E.P) hz w).2 (cp*e)))
     refine ⟨_,.slice (some ⟨w.heap.size,0,none⟩) ln cp,_,val_run ?_,S,?_⟩
     ·rw [hl2,hc2]
      by_cases h0:cp*e=0
      ·simp only [Instr.makeSlice,Sem.run_bind,run_underlying (elemT_some hel),Result.andThen_ok,asInt,asIntOf,Sem.run_pure,hti,hwl,hwc,htl,hneg,hgt,Bool.false_or,decide_false,Bool.or_self,Bool.false_eq_true,if_false,run_askRoom,Int.toNat_natCast,run_size' he,h0,if_true,newRow,run_newObj_alloc]
       have e0:Array.range 0=(#[]:Array Nat):=Array.eq_empty_of_size_eq_zero (by simp)
       simp [zerosOf,e0]
      ·simp only [Instr.makeSlice,Sem.run_bind,run_underlying (elemT_some hel),Result.andThen_ok,asInt,asIntOf,Sem.run_pure,hti,hwl,hwc,htl,hneg,hgt,Bool.false_or,decide_false,Bool.or_self,Bool.false_eq_true,if_false,run_askRoom,Int.toNat_natCast,run_size' he,h0,(run_zero' hz w).1,newRow,run_newObj_alloc,zerosOf,Array.toArray_toList]
     ·exact .sliceE (a:=⟨H.n,0,none⟩) rfl (by have:=mkroom_lt;omega) (upd_same μ H.n _)
    ·cases h
   ·cases h
  ·cases h
 case slice t x lo hi mx =>
  have hx:=ev x (by simp [Op.operands])
  cases hb:sliceV E.P H t (evalO T x) (lo.map (evalO T)) (hi.map (evalO T)) (mx.map (evalO T)) with
  | none=>simp [hb] at h
  | some v =>
   simp [hb] at h
   obtain ⟨rfl,rfl⟩:=h
   have ov:∀ q:Option Operand,(∀ y,q=some y→y∈(Op.slice t x lo hi mx).operands)→OVR μ (q.map (evalO T)) (q.map a.eval):=fun q hq=>by
    cases q with
    | none=>trivial
    | some y=>exact ev y (hq y rfl)
   obtain ⟨v',h1,h2⟩:=sliceV_ok (P:=E.P) R hx (ov lo (fun x hx=>by subst hx;simp [Op.operands])) (ov hi (fun x hx=>by subst hx;simp [Op.operands])) (ov mx (fun x hx=>by subst hx;simp [Op.operands])) hb
   exact .same R (val_run h1) h2
 case lookup t x k ok =>
  have hx:=ev x (by simp [Op.operands])
  have hk:=ev k (by simp [Op.operands])
  split at h
  ·rename_i kt el hu
   split at h
   ·rename_i kd z hkd hz
    split at h
    ·rename_i hkf
     split at h
     ·rename_i es hes
      split at h
      ·rename_i hall
       obtain ⟨hke,hisk⟩:=keyFlat_eq hkf hk
       rw [← hke] at hkf h
       have hents:∃ es':Array MapEntry,((a.eval x=.map none∧es'=#[])∨∃ r c,a.eval x=.map (some r)∧w.heap[r]?=some (.map es' c))∧es.length=es'.toList.length ∧
         (∀ (i:Nat) e e',es[i]?=some e→es'.toList[i]?=some e'→VR μ e.key e'.key∧VR μ e.val e'.val∧e.born=e'.born):=by
        unfold entriesV at hes
        split at hes
        ·rename_i hv
         cases hes
         rw [hv] at hx
         have:a.eval x=.map none:=by generalize a.eval x=q at hx;cases hx;rfl
         exact ⟨#[],.inl ⟨this,rfl⟩,rfl,fun i e e' h=>by simp at h⟩
        ·rename_i r hv
         rw [hv] at hx
         cases hg:H.getMap r with
         | none=>simp [hg] at hes
         | some p =>
          obtain ⟨es0,c⟩:=p
          simp [hg] at hes
          subst hes
          have:∃ m,μ r=some m∧a.eval x=.map (some m.at_.block):=by generalize a.eval x=q at hx;cases hx with | map hm=>exact ⟨_,hm,rfl⟩
          obtain ⟨m,hm,he⟩:=this
          obtain ⟨es',q1,q2,q3⟩:=(R.map r m es0 c hm (getMap_some hg)).ex
          exact ⟨es',.inr ⟨_,_,he,q1⟩,by simpa using q2,fun i e e' h1 h2=>q3 i e e' h1 (by simpa using h2)⟩
        ·cases hes
       obtain ⟨es',r1,r2,r3⟩:=hents
       obtain ⟨f1,f2⟩:=findNow_rel (kd:=kd) (k:=a.eval k) es es'.toList 0 r2 hall r3
       split at h
       ·rename_i j v hfn
        cases h
        obtain ⟨v',g1,g2⟩:=f2 j v hfn
        refine .same R (val_run (lookup_run hu hkd (hke▸hisk) hz r1 g1)) ?_
        cases ok
        ·exact g2
        ·refine .tuple rfl fun i x y hx hy=>?_
         match i with
         | 0=>simp at hx hy;subst hx;subst hy;exact g2
         | 1=>simp at hx hy;subst hx;subst hy;exact .bool _
         | i+2=>simp at hx
       ·rename_i hfn
        cases h
        refine .same R (val_run (lookup_run hu hkd (hke▸hisk) hz r1 (f1 hfn))) ?_
        cases ok
        ·exact zero_ok hz
        ·refine .tuple rfl fun i x y hx hy=>?_
         match i with
         | 0=>simp at hx hy;subst hx;subst hy;exact zero_ok hz
         | 1=>simp at hx hy;subst hx;subst hy;exact .bool _
         | i+2=>simp at hx
       ·cases h
      ·cases h
     ·cases h
    ·cases h
   ·cases h
  ·cases h
 case mapEntry t x k =>
  have hx:=ev x (by simp [Op.operands])
  have hk:=ev k (by simp [Op.operands])
  split at h
  ·rename_i kt el r hu hv
   rw [hv] at hx
   split at h
   ·rename_i kd z es c hkd hz hg
    split at h
    ·rename_i hc
     simp only [Bool.and_eq_true] at hc
     obtain ⟨v,rfl,μ',v',w',h1,h2,h3⟩:=mapEntry_ok (P:=E.P) R hu hkd hz hx hk hg hc.1 hc.2 h
     exact ⟨μ',v',w',val_run h1,h2,h3⟩
    ·cases h
   ·cases h
  ·cases h
 case mapUpdate t x k y =>
  have hx:=ev x (by simp [Op.operands])
  have hk:=ev k (by simp [Op.operands])
  have hy:=ev y (by simp [Op.operands])
  split at h
  ·rename_i kt el r hu hv
   rw [hv] at hx
   split at h
   ·rename_i kd es c hkd hg
    split at h
    ·rename_i hc
     simp only [Bool.and_eq_true] at hc
     obtain ⟨rfl,w',h1,h2⟩:=mapUpdate_ok (P:=E.P) R hu hkd hx hk hy hg hc.1 hc.2 h
     exact ⟨μ,w',by simp [execOp,h1],h2⟩
    ·cases h
   ·cases h
  ·cases h
 case entryStore t x s y =>
  have hx:=ev x (by simp [Op.operands])
  have hs:=ev s (by simp [Op.operands])
  have hy:=ev y (by simp [Op.operands])
  split at h
  ·rename_i r born hv hb
   rw [hv] at hx
   split at h
   ·rename_i es c hg
    split at h
    ·rename_i i hi
     cases h
     obtain ⟨w',h1,h2⟩:=entryStore_ok (P:=E.P) (t:=t) R hx hs hy hg hb hi
     exact ⟨μ,w',by simp [execOp,h1],h2⟩
    ·cases h
   ·cases h
  ·cases h
 case call c =>
  obtain ⟨callee,args,argTypes⟩:=c
  have hargs:VRs μ (args.toList.map (evalO T)) (args.toList.map a.eval):=VRs.map fun x hx=>ev x (by
   simp only [Op.operands,Call.operands,Array.mem_append];exact .inr (Array.mem_toList_iff.1 hx))
  cases callee with
  | builtin b =>
   simp only at h
   obtain ⟨⟨v,H1⟩,hb,hq⟩:=Option.map_eq_some_iff.1 h
   simp only [Prod.mk.injEq] at hq
   obtain ⟨rfl,rfl⟩:=hq
   ·skip
    obtain ⟨μ',v',w',h1,h2,h3⟩:=builtinV_ok (P:=E.P) R hargs hb
    refine ⟨μ',v',w',?_,h2,h3⟩
    have e:args.map a.eval=(args.toList.map a.eval).toArray:=by apply Array.ext';simp
    simp only [execOp,resolve,Sem.run_bind,Sem.run_pure,Result.andThen_ok,invoke,e]
    exact h1
  | value f =>
   simp only at h
   have hf:=ev f (by simp [Op.operands,Call.operands])
   split at h
   ·rename_i g first captured hv
    rw [hv] at hf
    obtain ⟨first',captured',he,hf1,hf2⟩:=hf.fn
    have hall:VRa μ (first++args.map (evalO T)++captured) (first'++args.map a.eval++captured'):=by
     unfold VRa
     simp only [Array.toList_append,Array.toList_map]
     exact (hf1.append hargs).append hf2
    have hrun:(execOp a.eval ⟨dst,.call ⟨.value f,args,argTypes⟩,type,pos,after,guard⟩).run E.P w=(callFunc g (first'++args.map a.eval++captured')).run E.P w:=by
     simp only [execOp,resolve,he,Deferred.ofValue,Sem.run_bind,Sem.run_pure,Result.andThen_ok,invoke]
    split at h
    ·rename_i fn hfn
     split at h
     ·rename_i hbody
      cases h
      refine ⟨rfl,_,?_,hall⟩
      rw [hrun]
      have hn:=hE.name g fn hfn hbody
      have hb:fn.body.isNone=false:=by cases hq:fn.body<;>simp_all
      simp only [callFunc,Sem.run_bind,run_program,Result.andThen_ok,hfn,hn,Bool.false_eq_true,if_false,hb,Sem.run_pure]
     ·rename_i hbody
      split at h
      ·rename_i x hX
       split at h
       ·rename_i hfl
        obtain ⟨v,hxa,hq⟩:=Option.map_eq_some_iff.1 h
        simp only [Prod.mk.injEq] at hq
        obtain ⟨rfl,rfl⟩:=hq
        ·skip
         have heq:first'++args.map a.eval++captured'=first++args.map (evalO T)++captured:=Array.ext' (flats_eq hall hfl)
         obtain ⟨k1,k2⟩:=hE.x g x _ v hX hxa hfl w
         exact .same R (by rw [hrun,heq];exact k1) (VR.of_flat μ depth k2)
       ·cases h
      ·cases h
    ·cases h
   ·cases h
  | invoke rc nm=>simp at h
 all_goals (cases h;done)
end
end Go.Proofs.YtmndbhgbngkakaaDoor.E
end
section
/- What the evaluator does to its own memory, whatever the model does. No condition. -/
namespace Go.Proofs.YtmndbhgbngkakaaDoor.E
open Go Go.RowKit
set_option linter.all false

/-- Of what was there only what is owned from 'low' on has turned. -/
structure AStp (H H':Mem):Prop where
 wf:WF H→WF H'
 n:H.n≤H'.n
 own:WF H→∀ i,i < H.n→owner H' i=owner H i
 obs:∀ i,i < H.n→(∀ f,owner H i=some f→f < H'.low)→H'.obs.get i=H.obs.get i
 gens:∀ f,f < H.n→f < H'.low→H'.gens.get f=H.gens.get f
 low:H'.low≤H.low
section
variable {H H' H'':Mem} {P:Program}
theorem AStp.refl (H:Mem):AStp H H:=⟨id,Nat.le_refl _,fun _ _ _=>rfl,fun _ _ _=>rfl,fun _ _ _=>rfl,Nat.le_refl _⟩
theorem AStp.trans (W:WF H) (S:AStp H H') (K:AStp H' H''):AStp H H'' :=
 ⟨fun _=>K.wf (S.wf W),Nat.le_trans S.n K.n,fun _ i hi=>(K.own (S.wf W) i (Nat.lt_of_lt_of_le hi S.n)).trans (S.own W i hi),
  fun i hi hf=>by rw [K.obs i (Nat.lt_of_lt_of_le hi S.n) (fun f hf'=>hf f (by rw [← S.own W i hi];exact hf')),S.obs i hi (fun f hf'=>Nat.lt_of_lt_of_le (hf f hf') K.low)],
  fun f hf hl=>by rw [K.gens f (Nat.lt_of_lt_of_le hf S.n) hl,S.gens f hf (Nat.lt_of_lt_of_le hl K.low)],Nat.le_trans K.low S.low⟩
theorem AStp.new (H:Mem) (cs:List Value) (e:Nat):AStp H (H.new cs e):=by
 have hget:∀ i,(H.new cs e).obs.get i=if H.n=i then some (.blk ⟨cs,e,H.n,0,false⟩) else H.obs.get i:=fun i=>Tr.get_set _ _ _ _
 exact ⟨fun W=>W.new cs e,Nat.le_succ _,fun _ i hi=>by rw [owner_new,if_neg (by omega)],fun i hi _=>by rw [hget,if_neg (by omega)],fun _ _ _=>rfl,Nat.le_refl _⟩
theorem AStp.put {i:Nat} {b:Blk} (hl:H.live i=some b) (hr:b.ro=false) (cs:List Value):AStp H (H.put i b cs):=by
 obtain ⟨ho,ha⟩:=live_some hl
 have hown:owner H i=some b.fam:=by rw [owner_blk ho,hr];rfl
 have hlow:(H.put i b cs).low=min H.low b.fam:=by unfold Mem.put;split<;>rfl
 have hnn:(H.put i b cs).n=H.n:=by unfold Mem.put;split<;>rfl
 refine ⟨fun W=>W.put ho hr ha cs,by rw [hnn];exact Nat.le_refl _,fun _ j _=>owner_put ho cs j,fun j hj hf=>?_,fun f hf hfl=>?_,by rw [hlow];omega⟩
 ·rw [put_get,if_neg]
  intro e
  subst e
  have:=hf b.fam hown
  rw [hlow] at this
  omega
 ·rw [hlow] at hfl
  unfold Mem.put
  split
  ·rfl
  ·exact Tr.get_set_ne _ _ (by omega)
theorem AStp.wr {i off:Nat} {vs:List Value} (h:wr H i off vs=some H'):AStp H H':=by
 obtain ⟨b,hb,hr,_,_,rfl⟩:=wr_some h
 exact .put hb hr _
theorem AStp.grow {i:Nat} {b:Blk} (hl:H.live i=some b) (hr:b.ro=false) (he:b.esz≠0) (keep:Bool) (cs:List Value):AStp H (H.grow i b keep cs):=by
 obtain ⟨ho,ha⟩:=live_some hl
 have hown:owner H i=some b.fam:=by rw [owner_blk ho,hr];rfl
 have hlow:(H.grow i b keep cs).low=min H.low b.fam:=rfl
 refine ⟨fun W=>W.grow ho hr he keep cs,Nat.le_succ _,fun _ j hj=>by rw [owner_grow ho hr,if_neg (by omega)],fun j hj hf=>?_,fun f hf hfl=>?_,by rw [hlow];omega⟩
 ·rw [grow_get,if_neg (by omega),if_neg]
  rintro ⟨_,e⟩
  subst e
  have:=hf b.fam hown
  rw [hlow] at this
  omega
 ·rw [hlow] at hfl
  exact Tr.get_set_ne _ _ (by omega)
theorem AStp.newMap (H:Mem):AStp H H.newMap:=by
 have hget:∀ i,H.newMap.obs.get i=if H.n=i then some (.map [] 0) else H.obs.get i:=fun i=>Tr.get_set _ _ _ _
 exact ⟨fun W=>W.newMap,Nat.le_succ _,fun _ i hi=>by rw [owner_newMap,if_neg (by omega)],fun i hi _=>by rw [hget,if_neg (by omega)],fun _ _ _=>rfl,Nat.le_refl _⟩
theorem AStp.putMap {r c0 c:Nat} {es0 es:List MapEntry} (hg:H.getMap r=some (es0,c0)):AStp H (H.putMap r es c):=by
 have ho:=getMap_some hg
 have hown:owner H r=some r:=owner_map ho
 have hlow:(H.putMap r es c).low=min H.low r:=rfl
 have how:∀ j,owner (H.putMap r es c) j=owner H j:=fun j=>by
  have hg:=putMap_get H r es c j
  by_cases e:r=j
  ·subst e;rw [if_pos rfl] at hg;rw [owner_map hg,hown]
  ·rw [if_neg e] at hg;exact owner_of hg
 refine ⟨fun W=>⟨fun i o h=>?_,fun i b h hr=>?_,W.gen⟩,Nat.le_refl _,fun _ i _=>how i,fun i hi hf=>?_,fun f _ _=>rfl,by rw [hlow];omega⟩
 ·rw [putMap_get] at h
  show i < H.n
  split at h
  ·rename_i e;subst e;exact W.lt _ _ ho
  ·exact W.lt i o h
 ·rw [putMap_get] at h
  split at h
  ·cases h
  ·obtain ⟨x1,x2,x3,x4⟩:=W.fam i b h hr
   refine ⟨x1,x2,x3,fun he=>?_⟩
   obtain ⟨b',hb',y⟩:=x4 he
   exact ⟨b',by rw [putMap_get,if_neg (fun e=>by rw [← e,ho] at hb';cases hb')];exact hb',y⟩
 ·rw [putMap_get,if_neg]
  intro e
  subst e
  have:=hf r hown
  rw [hlow] at this
  omega
theorem appendV_a {e bytes k:Nat} {s v:Value} {new:List Value} (h:appendV H e bytes s new k=some (v,H')):AStp H H':=by
 unfold appendV at h
 split at h
 ·rename_i base len cap
  split at h
  ·rename_i hc
   by_cases hzo:cap=ZO
   ·rw [if_pos hzo] at h;cases h
   rw [if_neg hzo] at h
   by_cases hro:cap=RO
   ·rw [if_pos hro] at h
    split at h
    ·cases h;exact .refl _
    ·cases h
   rw [if_neg hro] at h
   split at h
   ·split at h
    ·cases h
    ·split at h
     ·cases h
     ·rename_i b hb
      split at h
      ·rename_i hcond
       split at h
       ·cases h;exact .refl _
       ·split at h
        ·obtain ⟨H1,h1,hq⟩:=Option.map_eq_some_iff.1 h
         cases hq
         exact .wr h1
        ·cases h
         exact .grow hb hcond.2.1 (by omega) _ _
      ·cases h
   ·split at h
    ·split at h
     ·cases h;exact .refl _
     ·split at h
      ·cases h
      ·obtain ⟨H1,h1,hq⟩:=Option.map_eq_some_iff.1 h
       cases hq
       exact .wr h1
    ·split at h
     ·cases h
     ·cases h;exact .new _ _ _
  ·cases h
 ·cases h
theorem builtinV_a {b:Builtin} {ts:Array TypeId} {ty:TypeId} {consts:Array Bool} {args:List Value} {v:Value} (h:builtinV P H b ts ty consts args=some (v,H')):AStp H H':=by
 unfold builtinV at h
 split at h
 ·split at h
  ·cases h;exact .refl _
  ·cases h;exact .refl _
  ·cases h;exact .refl _
  ·obtain ⟨m,_,hq⟩:=Option.map_eq_some_iff.1 h
   cases hq;exact .refl _
  ·cases h
 ·split at h
  ·split at h
   ·cases h
   ·cases h;exact .refl _
  ·cases h
 ·split at h
  ·split at h
   ·split at h
    ·cases h
    ·split at h
     ·split at h
      ·split at h
       ·exact appendV_a h
       ·cases h
      ·cases h
     ·split at h
      ·split at h
       ·exact appendV_a h
       ·cases h
      ·cases h
   ·cases h
  ·cases h
 ·split at h
  ·split at h
   ·split at h
    ·split at h
     ·split at h
      ·cases h;exact .refl _
      ·obtain ⟨H1,h1,hq⟩:=Option.map_eq_some_iff.1 h
       cases hq
       exact .wr h1
     ·cases h;exact .refl _
    ·cases h
   ·cases h
  ·cases h
 ·split at h
  ·cases h;exact .refl _
  ·split at h
   ·cases h;exact .refl _
   ·split at h
    ·obtain ⟨H1,h1,hq⟩:=Option.map_eq_some_iff.1 h
     cases hq
     exact .wr h1
    ·cases h
  ·cases h
 ·split at h
  ·obtain ⟨m,_,hq⟩:=Option.map_eq_some_iff.1 h
   cases hq;exact .refl _
  ·cases h
 ·split at h
  ·obtain ⟨m,_,hq⟩:=Option.map_eq_some_iff.1 h
   cases hq;exact .refl _
  ·cases h
 ·cases h
theorem storeV_a {t:TypeId} {a:Addr} {v:Value} (h:storeV P H t a v=some H'):AStp H H':=by
 unfold storeV at h
 split at h
 ·exact .wr h
 ·cases h
/-- An operation. Where it is inert, nothing of the memory is asked. -/
theorem opStep_a (E:Env) {T:Tr Value} {o:Oper} {re:Re} (h:opStep E T H o=some (re,H')):AStp H H'∧((∃ f args,re=.enter f args)→H'=H):=by
 obtain ⟨dst,op,type,pos,after,guard⟩:=o
 have same:∀ {v:Value},(re,H')=(Re.val v,H)→AStp H H'∧((∃ f args,re=.enter f args)→H'=H):=fun e=>by cases e;exact ⟨.refl _,fun _=>rfl⟩
 cases op
 all_goals simp only [opStep] at h
 case move x=>cases h;exact same rfl
 case assign x=>cases h;exact same rfl
 case pick=>split at h<;>first | (cases h;exact same rfl) | cases h
 case alloc =>
  obtain ⟨m,_,hq⟩:=Option.map_eq_some_iff.1 h
  cases hq;exact ⟨.new _ _ _,fun ⟨_,_,e⟩=>by cases e⟩
 case box=>cases h;exact ⟨.new _ _ _,fun ⟨_,_,e⟩=>by cases e⟩
 case build =>
  obtain ⟨m,_,hq⟩:=Option.map_eq_some_iff.1 h
  cases hq;exact same rfl
 case buildSlice =>
  split at h
  ·cases h
  ·split at h
   ·split at h
    ·split at h
     ·cases h;exact ⟨.new _ _ _,fun ⟨_,_,e⟩=>by cases e⟩
     ·cases h
    ·cases h
   ·cases h
 case load =>
  split at h
  ·obtain ⟨m,_,hq⟩:=Option.map_eq_some_iff.1 h
   cases hq;exact same rfl
  ·cases h
 case store =>
  split at h
  ·obtain ⟨H1,h1,hq⟩:=Option.map_eq_some_iff.1 h
   cases hq;exact ⟨storeV_a h1,fun ⟨_,_,e⟩=>by cases e⟩
  ·cases h
 case nilCheck=>split at h<;>first | (cases h;exact same rfl) | cases h
 case binOp =>
  obtain ⟨m,_,hq⟩:=Option.map_eq_some_iff.1 h
  cases hq;exact same rfl
 case unOp =>
  split at h
  ·obtain ⟨m,_,hq⟩:=Option.map_eq_some_iff.1 h
   cases hq;exact same rfl
  ·cases h
 case convert =>
  obtain ⟨m,_,hq⟩:=Option.map_eq_some_iff.1 h
  cases hq;exact same rfl
 case makeInterface=>split at h<;>first | (cases h;exact same rfl) | cases h
 case makeFunc=>cases h;exact same rfl
 case makeMap t r =>
  cases r with
  | some r=>simp [opStep] at h
  | none=>simp only [opStep] at h;cases h;exact ⟨.newMap _,fun ⟨_,_,e⟩=>by cases e⟩
 case makeSlice =>
  split at h
  ·split at h
   ·split at h
    ·cases h;exact ⟨.new _ _ _,fun ⟨_,_,e⟩=>by cases e⟩
    ·cases h
   ·cases h
  ·cases h
 case slice =>
  obtain ⟨m,_,hq⟩:=Option.map_eq_some_iff.1 h
  cases hq;exact same rfl
 case fieldAddr =>
  split at h
  ·split at h
   ·split at h
    ·split at h
     ·cases h
     ·cases h;exact same rfl
    ·cases h
   ·cases h
  ·cases h
 case field =>
  split at h
  ·split at h
   ·obtain ⟨m,_,hq⟩:=Option.map_eq_some_iff.1 h
    cases hq;exact same rfl
   ·cases h
  ·cases h
 case indexAddr =>
  split at h
  ·split at h
   ·split at h
    ·cases h;exact same rfl
    ·cases h
   ·cases h
  ·split at h
   ·split at h
    ·cases h;exact same rfl
    ·cases h
   ·cases h
  ·cases h
 case index =>
  split at h
  ·split at h
   ·split at h
    ·obtain ⟨m,_,hq⟩:=Option.map_eq_some_iff.1 h
     cases hq;exact same rfl
    ·cases h
   ·cases h
  ·obtain ⟨m,_,hq⟩:=Option.map_eq_some_iff.1 h
   cases hq;exact same rfl
  ·cases h
 case lookup =>
  split at h
  ·split at h
   ·split at h
    ·split at h
     ·split at h
      ·split at h
       ·cases h;exact same rfl
       ·cases h;exact same rfl
       ·cases h
      ·cases h
     ·cases h
    ·cases h
   ·cases h
  ·cases h
 case mapEntry =>
  split at h
  ·split at h
   ·rename_i hg
    split at h
    ·split at h
     ·split at h
      ·cases h;exact ⟨.putMap hg,fun ⟨_,_,e⟩=>by cases e⟩
      ·cases h
     ·cases h;exact ⟨.putMap hg,fun ⟨_,_,e⟩=>by cases e⟩
     ·cases h
    ·cases h
   ·cases h
  ·cases h
 case mapUpdate =>
  split at h
  ·split at h
   ·rename_i hg
    split at h
    ·split at h
     ·cases h;exact ⟨.putMap hg,fun ⟨_,_,e⟩=>by cases e⟩
     ·cases h;exact ⟨.putMap hg,fun ⟨_,_,e⟩=>by cases e⟩
     ·cases h
    ·cases h
   ·cases h
  ·cases h
 case entryStore =>
  split at h
  ·split at h
   ·rename_i hg
    split at h
    ·cases h;exact ⟨.putMap hg,fun ⟨_,_,e⟩=>by cases e⟩
    ·cases h
   ·cases h
  ·cases h
 case extract =>
  split at h
  ·obtain ⟨m,_,hq⟩:=Option.map_eq_some_iff.1 h
   cases hq;exact same rfl
  ·cases h
 case call c =>
  obtain ⟨callee,args,argTypes⟩:=c
  cases callee with
  | builtin b =>
   simp only at h
   obtain ⟨m,hm,hq⟩:=Option.map_eq_some_iff.1 h
   cases hq;exact ⟨builtinV_a (v:=m.1) hm,fun ⟨_,_,e⟩=>by cases e⟩
  | value f =>
   simp only at h
   split at h
   ·split at h
    ·split at h
     ·cases h;exact ⟨.refl _,fun _=>rfl⟩
     ·split at h
      ·split at h
       ·obtain ⟨m,_,hq⟩:=Option.map_eq_some_iff.1 h
        cases hq;exact same rfl
       ·cases h
      ·cases h
    ·cases h
   ·cases h
  | invoke rc nm=>simp at h
 all_goals (cases h;done)
/-- Of calls. -/
def CallA (call:Call):Prop:=∀ f args H v H',call f args H=some (v,H')→WF H→AStp H H'
theorem stepOne_a (E:Env) {call:Call} (hc:CallA call) {ops:Array Oper} {o:Oper} {T T':Tr Value} (h:stepOne E call ops o T H=some (T',H')) (W:WF H):AStp H H'∧∃ v,T'=putT T o.dst v:=by
 unfold stepOne at h
 split at h
 ·split at h
  ·rename_i v H1 h1
   cases h;exact ⟨(opStep_a E h1).1,_,rfl⟩
  ·rename_i H1 h1
   cases h;exact ⟨(opStep_a E h1).1,_,rfl⟩
  ·rename_i f args H1 h1
   obtain ⟨a1,a2⟩:=opStep_a E h1
   have:=a2 ⟨_,_,rfl⟩
   subst this
   split at h
   ·rename_i v H2 h2
    cases h;exact ⟨hc _ _ _ _ _ h2 W,_,rfl⟩
   ·cases h
  ·cases h
 ·cases h;exact ⟨.refl _,_,rfl⟩
theorem evList_a (E:Env) {call:Call} (hc:CallA call) {ops:Array Oper}:∀ (l:List Oper) (T T':Tr Value) (H H':Mem),evList E call ops l T H=some (T',H')→WF H→AStp H H'
 | [],T,T',H,H',h,W=>by cases h;exact .refl _
 | o::l,T,T',H,H',h,W=>by
  unfold evList at h
  split at h
  ·rename_i T1 H1 h1
   have S:=(stepOne_a E hc h1 W).1
   exact S.trans W (evList_a E hc l _ _ _ _ h (S.wf W))
  ·cases h
theorem WF.low (W:WF H) (l:Nat):WF { H with low:=l }:=⟨W.lt,W.fam,W.gen⟩
theorem AStp.relow (S:AStp { H with low:=H.n } H'):AStp H { H' with low:=min H.low H'.low } :=
 ⟨fun W=>(S.wf (W.low _)).low _,S.n,fun W i hi=>S.own (W.low _) i hi,fun i hi hf=>S.obs i hi (fun f hf'=>by have:=hf f hf';simp at this;omega),fun f hf hl=>S.gens f hf (by simp at hl;omega),by simp;omega⟩
theorem evDraw_a (E:Env) {call:Call} (hc:CallA call) {ops:Array Oper}:∀ (l:List Oper) (k:Nat) (T T':Tr Value) (H H':Mem),evDraw E call ops l k T H=some (T',H')→WF H→AStp H H'
 | [],k,T,T',H,H',h,W=>by cases h;exact .refl _
 | o::l,k,T,T',H,H',h,W=>by
  unfold evDraw at h
  split at h
  ·rename_i T1 H1 h1
   split at h
   ·have S:=(stepOne_a E hc h1 (W.low _)).1.relow
    exact S.trans W (evDraw_a E hc l _ _ _ _ _ h (S.wf W))
   ·cases h
  ·cases h
theorem iter_a {f:St→Option (Ex × St)} (hf:∀ T H ex T' H',f (T,H)=some (ex,T',H')→WF H→AStp H H'):∀ (n:Nat) (T T':Tr Value) (H H':Mem) (ex:Ex),iter f n (T,H)=some (ex,T',H')→WF H→AStp H H'
 | 0,_,_,_,_,_,h,_=>by cases h
 | n+1,T,T',H,H',ex,h,W=>by
  unfold iter at h
  split at h
  ·rename_i s' h1
   obtain ⟨T1,H1⟩:=s'
   have S:=hf _ _ _ _ _ h1 W
   exact S.trans W (iter_a hf n _ _ _ _ _ h (S.wf W))
  ·rename_i r h1
   exact hf _ _ _ _ _ h W
theorem evCode_a (E:Env) {call:Call} (hc:CallA call) (n:Nat):∀ (c:Code) (T T':Tr Value) (H H':Mem) (ex:Ex),evCode E call n c (T,H)=some (ex,T',H')→WF H→AStp H H':=by
 intro c
 induction c with
 | skip=>intro T T' H H' ex h W;simp only [evCode] at h;cases h;exact .refl _
 | region id ops draw =>
  intro T T' H H' ex h W
  simp only [evCode] at h
  obtain ⟨⟨T1,H1⟩,hm,hq⟩:=Option.map_eq_some_iff.1 h
  cases hq
  split at hm
  ·exact evDraw_a E hc _ _ _ _ _ _ hm W
  ·exact evList_a E hc _ _ _ _ _ hm W
 | seq x y ihx ihy =>
  intro T T' H H' ex h W
  simp only [evCode] at h
  split at h
  ·rename_i s' h1
   obtain ⟨T1,H1⟩:=s'
   have S:=ihx _ _ _ _ _ h1 W
   exact S.trans W (ihy _ _ _ _ _ h (S.wf W))
  ·exact ihx _ _ _ _ _ h W
 | cond c x y ihx ihy =>
  intro T T' H H' ex h W
  simp only [evCode] at h
  split at h
  ·exact ihx _ _ _ _ _ h W
  ·exact ihy _ _ _ _ _ h W
  ·cases h
 | block id b ih =>
  intro T T' H H' ex h W
  simp only [evCode] at h
  split at h
  ·rename_i i s' h1
   obtain ⟨T1,H1⟩:=s'
   split at h
   ·cases h;exact ih _ _ _ _ _ h1 W
   ·cases h;exact ih _ _ _ _ _ h1 W
  ·exact ih _ _ _ _ _ h W
 | loop b ih =>
  intro T T' H H' ex h W
  simp only [evCode] at h
  exact iter_a (fun T H ex T' H'=>ih T T' H H' ex) n _ _ _ _ _ h W
 | exit id=>intro T T' H H' ex h W;simp only [evCode] at h;cases h;exact .refl _
 | ret=>intro T T' H H' ex h W;simp only [evCode] at h;cases h;exact .refl _
 | rangeFunc=>intro T T' H H' ex h W;simp [evCode] at h
 | scope=>intro T T' H H' ex h W;simp [evCode] at h
 | label=>intro T T' H H' ex h W;simp [evCode] at h
 | goto=>intro T T' H H' ex h W;simp [evCode] at h
 | refuse=>intro T T' H H' ex h W;simp [evCode] at h
theorem evCall_a (E:Env) (hI:∀ f g,E.I f=some g→∀ args H v H',g args H=some (v,H')→WF H→AStp H H'):∀ n,CallA (evCall E n)
 | 0=>fun f args H v H' h=>by simp [evCall] at h
 | n+1=>fun f args H v H' h W=>by
  have ih:=evCall_a E hI n
  simp only [evCall] at h
  split at h
  ·rename_i g hg
   exact hI f g hg _ _ _ _ h W
  ·split at h
   ·cases h
   ·split at h
    ·cases h
    ·split at h
     ·cases h
     ·split at h
      ·cases h
      ·split at h
       ·rename_i T1 H1 h1
        obtain ⟨m,_,hq⟩:=Option.map_eq_some_iff.1 h
        cases hq;exact evCode_a E ih n _ _ _ _ _ _ h1 W
       ·rename_i T1 H1 h1
        obtain ⟨m,_,hq⟩:=Option.map_eq_some_iff.1 h
        cases hq;exact evCode_a E ih n _ _ _ _ _ _ h1 W
       ·cases h
end
end Go.Proofs.YtmndbhgbngkakaaDoor.E
end
section
/- One operation, and rows of them in the order of the text. No condition. -/
namespace Go.Proofs.YtmndbhgbngkakaaDoor.E
open Go Go.RowKit
set_option linter.all false

/-- What is shown of calls. -/
def CallC (P:Program) (base:Nat) (call:Call):Prop :=
  ∀ f args H v H',call f args H=some (v,H')→∀ μ w args',Rl base μ H w→VRa μ args args' →
    Calls P f args' w (fun e w'=>∃ μ' v',e=.returned v'∧Stp base μ H w μ' H' w'∧VR μ' v v')
section
variable {base:Nat} {μ:Mp} {H H':Mem} {w:World} {P:Program}
def boolOf:Value→Option Bool
  | .bool b=>some b
  | _=>none
theorem VR.is_bool {x y:Value} (h:VR μ x y):boolOf x=boolOf y:=by cases h<;>rfl
theorem yield_at {ops:Array Oper} {T:Tr Value} {a:Act} {j:Nat} (h:∀ d,(ops[j]?).bind (·.dst)=some d→VR μ ((T.get d).getD undef) (a.tmps.getD d undef)):yieldT ops T j=yielded ops a.tmps j:=by
  unfold yieldT yielded
  cases hd:(ops[j]?).bind (·.dst) with
  | none=>rfl
  | some d =>
    have hv:=(h d hd).is_bool
    simp only [Option.bind_some]
    refine Eq.trans (b:=boolOf ((T.get d).getD undef)) ?_ (hv.trans ?_)
    · cases T.get d with
      | none=>rfl
      | some v=>cases v<;>rfl
    · rw [Array.getD_eq_getD_getElem?]
      cases a.tmps[d]? with
      | none=>rfl
      | some v=>cases v<;>rfl
/-- What an operation looks at. -/
def looks (ops:Array Oper) (o:Oper):List Tmp :=
  (o.op.operands.toList.filterMap fun | .tmp t=>some t | _=>none)++(match o.guard with | some (g,_)=>((ops[g]?).bind (·.dst)).toList | none=>[])
theorem looks_ev {ops:Array Oper} {o:Oper} {T:Tr Value} {a:Act} (ho:o.op.operands.toList.all okO=true) (hl:∀ t,t∈looks ops o→VR μ ((T.get t).getD undef) (a.tmps.getD t undef)) :
    (∀ x,x∈o.op.operands→VR μ (evalO T x) (a.eval x))∧Region.wanted o (yieldT ops T)=Region.wanted o (yielded ops a.tmps):=by
  refine ⟨fun x hx=>?_,?_⟩
  · have hok:=List.all_eq_true.1 ho x (Array.mem_toList_iff.2 hx)
    cases x with
    | tmp t=>exact hl t (List.mem_append.2 (.inl (List.mem_filterMap.2 ⟨.tmp t,Array.mem_toList_iff.2 hx,rfl⟩)))
    | const v=>exact VR.of_flat μ depth hok
    | global g=>simp [okO] at hok
    | func f=>exact .func' _ ⟨rfl,fun i x y h=>by simp at h⟩ ⟨rfl,fun i x y h=>by simp at h⟩
  · unfold Region.wanted
    cases hg:o.guard with
    | none=>rfl
    | some p =>
      obtain ⟨j,b⟩:=p
      simp only
      rw [yield_at (ops:=ops) (T:=T) (a:=a) fun d hd=>hl d (List.mem_append.2 (.inr (by rw [hg];simp [hd])))]
/-- A value put into its temporary: what an operation has done, for whatever follows. -/
theorem stepOne_c (E:Env) (hE:EnvOk E) {call:Call} (hc:CallC E.P base call) {ops:Array Oper} {o:Oper} {T T':Tr Value} (ho:o.op.operands.toList.all okO=true) (h:stepOne E call ops o T H=some (T',H')) :
    ∃ v,T'=putT T o.dst v∧∀ (μ:Mp) (w:World) (a:Act) (K:Act→World→Prop) (Q:Exit→Act→World→Prop),Rl base μ H w→(∀ t,t∈looks ops o→VR μ ((T.get t).getD undef) (a.tmps.getD t undef)) →
      (∀ μ' v' w',Stp base μ H w μ' H' w'→VR μ' v v'→K (a.put o.dst v') w') →
      (if Region.wanted o (yielded ops a.tmps)=true then o.wp E.P a w K Q else K (a.put o.dst undef) w):=by
  unfold stepOne at h
  split at h
  · rename_i hw
    have fin:∀ re H1,opStep E T H o=some (re,H1)→∀ (μ:Mp) (w:World) (a:Act),Rl base μ H w→(∀ t,t∈looks ops o→VR μ ((T.get t).getD undef) (a.tmps.getD t undef)) →
        Region.wanted o (yielded ops a.tmps)=true∧OpR base μ H w re H1 ((execOp a.eval o).run E.P w):=fun re H1 h1 μ w a R hl=>by
      obtain ⟨e1,e2⟩:=looks_ev ho hl
      exact ⟨e2▸hw,opStep_ok E hE R e1 h1⟩
    split at h
    · rename_i v H1 h1
      cases h
      refine ⟨v,rfl,fun μ w a K Q R hl hK=>?_⟩
      obtain ⟨q1,μ',v',w',q2,q3,q4⟩:=fin _ _ h1 μ w a R hl
      rw [if_pos q1]
      unfold Oper.wp
      rw [q2]
      exact hK μ' v' w' q3 q4
    · rename_i H1 h1
      cases h
      refine ⟨undef,rfl,fun μ w a K Q R hl hK=>?_⟩
      obtain ⟨q1,μ',w',q2,q3⟩:=fin _ _ h1 μ w a R hl
      rw [if_pos q1]
      unfold Oper.wp
      rw [q2]
      exact hK μ' undef w' q3 (VR.undef _)
    · rename_i f args H1 h1
      split at h
      · rename_i v H2 h2
        cases h
        refine ⟨v,rfl,fun μ w a K Q R hl hK=>?_⟩
        obtain ⟨q1,rfl,args',q2,q3⟩:=fin _ _ h1 μ w a R hl
        rw [if_pos q1]
        unfold Oper.wp
        rw [q2]
        simp only [Oper.upon]
        refine (hc _ _ _ _ _ h2 μ w args' R q3).mono fun e w''=>?_
        rintro ⟨μ',v',rfl,S,hv⟩
        exact hK μ' v' w'' S hv
      · cases h
    · cases h
  · rename_i hw
    cases h
    refine ⟨undef,rfl,fun μ w a K Q R hl hK=>?_⟩
    obtain ⟨_,e2⟩:=looks_ev (μ:=μ) ho hl
    rw [if_neg (by rw [← e2];exact hw)]
    exact hK μ undef w (.refl R) (VR.undef _)
/-- An inert one: the memory has no part in it. -/
theorem stepOne_i (E:Env) {call:Call} {ops:Array Oper} {o:Oper} {T T':Tr Value} (hi:inert o=true) (ho:o.op.operands.toList.all okO=true) (h:stepOne E call ops o T H=some (T',H')) :
    H'=H∧∃ v,T'=putT T o.dst v∧∀ (μ:Mp) (w:World) (a:Act) (K:Act→World→Prop) (Q:Exit→Act→World→Prop),(∀ t,t∈looks ops o→VR μ ((T.get t).getD undef) (a.tmps.getD t undef)) →
      (∀ v',VR μ v v'→K (a.put o.dst v') w) →
      (if Region.wanted o (yielded ops a.tmps)=true then o.wp E.P a w K Q else K (a.put o.dst undef) w):=by
  unfold stepOne at h
  split at h
  · rename_i hw
    have fin:∀ re H1,opStep E T H o=some (re,H1)→∃ v,re=.val v∧H1=H:=fun re H1 h1=>by
      -- by any values that fit: none is needed to know what it is
      obtain ⟨dst,op,type,pos,after,guard⟩:=o
      cases op
      all_goals first
        | (simp [inert] at hi;done)
        | skip
      all_goals clear hi
      all_goals simp only [opStep] at h1
      all_goals repeat' split at h1
      all_goals first
        | (cases h1;done)
        | (cases h1;exact ⟨_,rfl,rfl⟩)
        | (obtain ⟨m,_,hq⟩:=Option.map_eq_some_iff.1 h1
           cases hq
           exact ⟨_,rfl,rfl⟩)
    split at h
    · rename_i v H1 h1
      obtain ⟨_,_,rfl⟩:=fin _ _ h1
      cases h
      refine ⟨rfl,v,rfl,fun μ w a K Q hl hK=>?_⟩
      obtain ⟨e1,e2⟩:=looks_ev ho hl
      obtain ⟨u,v',hu,_,q2,q3⟩:=inert_ok (μ:=μ) (w:=w) E hi e1 h1
      cases hu
      rw [if_pos (e2▸hw)]
      unfold Oper.wp
      rw [q2]
      exact hK v' q3
    · rename_i H1 h1
      obtain ⟨_,hq,_⟩:=fin _ _ h1
      cases hq
    · rename_i f args H1 h1
      obtain ⟨_,hq,_⟩:=fin _ _ h1
      cases hq
    · cases h
  · rename_i hw
    cases h
    refine ⟨rfl,undef,rfl,fun μ w a K Q hl hK=>?_⟩
    obtain ⟨_,e2⟩:=looks_ev (μ:=μ) ho hl
    rw [if_neg (by rw [← e2];exact hw)]
    exact hK undef (VR.undef _)
/-! ### Rows of operations, in the order of the text -/
theorem wpList_ok (E:Env) (hE:EnvOk E) {call:Call} (hc:CallC E.P base call) {ops:Array Oper} {nt:Nat} {Q:Exit→Act→World→Prop}:∀ (l:List Oper) (T T':Tr Value) (H H':Mem) (μ:Mp) (w:World) (a:Act),
    l.all (okOp nt)=true→evList E call ops l T H=some (T',H')→Rl base μ H w→ActR μ T a→a.tmps.size=nt →
    (∀ μ' a' w',Stp base μ H w μ' H' w'→ActR μ' T' a'→a'.tmps.size=nt→a'.defers=a.defers→Q .normal a' w')→wpList E.P ops Q l a w
  | [],T,T',H,H',μ,w,a,hok,h,R,A,hs,hQ=>by cases h;exact hQ μ a w (.refl R) A hs rfl
  | o::l,T,T',H,H',μ,w,a,hok,h,R,A,hs,hQ=>by
    simp only [List.all_cons,Bool.and_eq_true,okOp] at hok
    obtain ⟨⟨hd,ho⟩,hok'⟩:=hok
    unfold evList at h
    split at h
    · rename_i T1 H1 h1
      obtain ⟨v,rfl,hst⟩:=stepOne_c E hE hc ho h1
      have hdst:∀ t,o.dst=some t→t < a.tmps.size:=fun t ht=>by rw [ht] at hd;rw [hs];simpa using hd
      have:=hst μ w a (wpList E.P ops Q l) Q R (fun t _=>A.tm t) (fun μ' v' w' S hv =>
        wpList_ok E hE hc l _ _ _ _ μ' w' _ (by simpa [okOp] using hok') h S.rl ((A.mono S.ext).put hdst hv) (by rw [← hs];cases o.dst<;>simp [Act.put]) (fun μ'' a'' w'' S' A' hs' hd' =>
          hQ μ'' a'' w'' (S.trans R S') A' hs' (hd'.trans (by cases o.dst<;>rfl))))
      unfold wpList
      split at this
      · rename_i hw;rw [if_pos hw];exact .inl this
      · rename_i hw;rw [if_neg hw];exact this
    · cases h
end
end Go.Proofs.YtmndbhgbngkakaaDoor.E
end
section
/- Regions that draw their order: each order does what the order of the text does. No condition. -/
namespace Go.Proofs.YtmndbhgbngkakaaDoor.E
open Go Go.RowKit
set_option linter.all false

/-! ### Who waits for whom -/
inductive Anc (ops:Array Oper):Nat→Nat→Prop where
 | one {j:Nat} {o:Oper} {e:Edge} (h:ops[j]?=some o) (he:e∈o.after) (hb:Region.binds .any e=true):Anc ops e.on j
 | more {i j:Nat} {o:Oper} {e:Edge} (h:ops[j]?=some o) (he:e∈o.after) (hb:Region.binds .any e=true) (t:Anc ops i e.on):Anc ops i j
theorem maskOf_spec (acc:List Nat) (o:Oper) (i:Nat) (h:(maskOf acc o).testBit i=true):∃ e∈o.after,Region.binds .any e=true∧(i=e.on∨(acc.getD e.on 0).testBit i=true):=by
 unfold maskOf at h
 have key:∀ (l:List Edge) (s:Nat),(l.foldl (fun s e=>if Region.binds .any e then s ||| 2 ^ e.on ||| acc.getD e.on 0 else s) s).testBit i=true→s.testBit i=true∨∃ e∈l,Region.binds .any e=true∧(i=e.on∨(acc.getD e.on 0).testBit i=true):=by
  intro l
  induction l with
  | nil=>intro s h;exact .inl h
  | cons e l ih =>
   intro s h
   simp only [List.foldl_cons] at h
   rcases ih _ h with h1 | ⟨e',h1,h2⟩
   ·split at h1
    ·rename_i hb
     rw [Nat.testBit_or,Nat.testBit_or,Nat.testBit_two_pow] at h1
     simp only [Bool.or_eq_true,decide_eq_true_eq] at h1
     rcases h1 with (h1 | h1) | h1
     ·exact .inl h1
     ·exact .inr ⟨e,.head _,hb,.inl h1.symm⟩
     ·exact .inr ⟨e,.head _,hb,.inr h1⟩
    ·exact .inl h1
   ·exact .inr ⟨e',.tail _ h1,h2⟩
 rcases key _ _ h with h | ⟨e,h1,h2⟩
 ·simp at h
 ·exact ⟨e,Array.mem_toList_iff.1 h1,h2⟩
theorem masks_spec (ops:Array Oper):∀ (rest pre:List Oper) (acc:List Nat),pre++rest=ops.toList→acc.length=pre.length→(∀ j,j < pre.length→∀ i,(acc.getD j 0).testBit i=true→Anc ops i j) →
  ∀ j i,((rest.foldl (fun acc o=>acc++[maskOf acc o]) acc).getD j 0).testBit i=true→Anc ops i j
 | [],pre,acc,hp,hl,ha,j,i,h=>by
  rcases Nat.lt_or_ge j pre.length with hj | hj
  ·exact ha j hj i h
  ·rw [List.foldl_nil,List.getD_eq_getElem?_getD,List.getElem?_eq_none (by omega)] at h;simp at h
 | o::rest,pre,acc,hp,hl,ha,j,i,h=>by
  refine masks_spec ops rest (pre++[o]) (acc++[maskOf acc o]) (by simp [hp]) (by simp [hl]) (fun j hj i hi=>?_) j i h
  rcases Nat.lt_or_ge j pre.length with hlt | hge
  ·rw [List.getD_eq_getElem?_getD,List.getElem?_append_left (by omega),← List.getD_eq_getElem?_getD] at hi
   exact ha j hlt i hi
  ·have hje:j=pre.length:=by simp at hj;omega
   rw [List.getD_eq_getElem?_getD,List.getElem?_append_right (by omega),show j - acc.length=0 by omega] at hi
   simp only [List.getElem?_cons_zero,Option.getD_some] at hi
   have hop:ops[j]?=some o:=by
    rw [← Array.getElem?_toList,← hp,hje]
    simp
   obtain ⟨e,he,hb,hq⟩:=maskOf_spec acc o i hi
   rcases hq with rfl | hq
   ·exact .one hop he hb
   ·refine .more hop he hb ?_
    rcases Nat.lt_or_ge e.on pre.length with hlt' | hge'
    ·exact ha _ hlt' i hq
    ·rw [List.getD_eq_getElem?_getD,List.getElem?_eq_none (by omega)] at hq;simp at hq
theorem mask_anc {ops:Array Oper} {i j:Nat} (h:((masks ops.toList).getD j 0).testBit i=true):Anc ops i j :=
 masks_spec ops ops.toList [] [] rfl rfl (fun j hj=>by simp at hj) j i h
/-- One writes what the other writes or looks at. -/
def conf (ops:Array Oper) (x y:Oper):Bool :=
 (match x.dst with | some d=>(looks ops y).contains d || y.dst == some d | none=>false) || (match y.dst with | some d=>(looks ops x).contains d | none=>false)
def drawOk (ops:Array Oper):Bool :=
 (ops.toList.zipIdx.all fun p=>p.1.after.toList.all fun e=>!Region.binds .any e || decide (e.on < p.2)) &&
 ((List.range ops.size).all fun j=>(List.range j).all fun i=>!conf ops (ops.getD i default) (ops.getD j default) || ((masks ops.toList).getD j 0).testBit i)
structure DrawOk (ops:Array Oper):Prop where
 back:∀ i j,Anc ops i j→i < j
 conf:∀ (i j:Nat) x y,i < j→ops[i]?=some x→ops[j]?=some y→conf ops x y=true→Anc ops i j
theorem drawOk_spec {ops:Array Oper} (h:drawOk ops=true):DrawOk ops:=by
 unfold drawOk at h
 simp only [Bool.and_eq_true,List.all_eq_true] at h
 obtain ⟨h1,h2⟩:=h
 have edge:∀ (j:Nat) o e,ops[j]?=some o→e∈o.after→Region.binds .any e=true→e.on < j:=fun j o e hj he hb=>by
  have hz:(o,j)∈ops.toList.zipIdx:=by
   rw [List.mem_zipIdx_iff_getElem?]
   simpa using hj
  have:=h1 _ hz e (Array.mem_toList_iff.2 he)
  simpa [hb] using this
 refine ⟨fun i j h=>?_,fun i j x y hij hx hy hc=>?_⟩
 ·induction h with
  | one h he hb=>exact edge _ _ _ h he hb
  | more h he hb _ ih=>exact Nat.lt_trans ih (edge _ _ _ h he hb)
 ·have hjs:j < ops.size:=(Array.getElem?_eq_some_iff.1 hy).1
  have:=h2 j (List.mem_range.2 hjs) i (List.mem_range.2 hij)
  rw [show ops.getD i default=x by simp [Array.getD_eq_getD_getElem?,hx],show ops.getD j default=y by simp [Array.getD_eq_getD_getElem?,hy],hc] at this
  simp at this
  exact mask_anc (by simpa [List.getD_eq_getElem?_getD] using this)
theorem barrier_spec {ops:Array Oper} {k:Nat} (h:barrierB ops.toList k=true):∀ (j:Nat) o,ops[j]?=some o→j=k∨inert o=true∨Anc ops j k∨Anc ops k j:=by
 intro j o hj
 unfold barrierB at h
 rw [List.all_eq_true] at h
 have hjs:j < ops.size:=(Array.getElem?_eq_some_iff.1 hj).1
 have:=h j (List.mem_range.2 (by simpa using hjs))
 have hd:ops.toList.getD j default=o:=by rw [List.getD_eq_getElem?_getD];simp [hj]
 rw [hd] at this
 simp only [Bool.or_eq_true,beq_iff_eq] at this
 rcases this with ((h1 | h1) | h1) | h1
 ·exact .inl h1
 ·exact .inr (.inl h1)
 ·exact .inr (.inr (.inl (mask_anc h1)))
 ·exact .inr (.inr (.inr (mask_anc h1)))
/-! ### The states of the text's order -/
structure Run (E:Env) (call:Call) (ops:Array Oper) (Ts:Nat→Tr Value) (Hs H1s:Nat→Mem):Prop where
 step:∀ (k:Nat) o,ops[k]?=some o→stepOne E call ops o (Ts k) { Hs k with low:=(Hs k).n }=some (Ts (k+1),H1s k)
 quiet:∀ k,k < ops.size→(Hs k).n≤(H1s k).low∨barrierB ops.toList k=true
 next:∀ k,k < ops.size→Hs (k+1)={ H1s k with low:=min (Hs k).low (H1s k).low }
theorem run_of (E:Env) (call:Call) (ops:Array Oper):∀ (l:List Oper) (k:Nat) (T T':Tr Value) (H H':Mem),ops.toList.drop k=l→evDraw E call ops l k T H=some (T',H')→∃ (Ts:Nat→Tr Value) (Hs H1s:Nat→Mem),Ts k=T∧Hs k=H∧Ts (k+l.length)=T'∧Hs (k+l.length)=H' ∧
  (∀ (j:Nat) o,k≤j→ops[j]?=some o→stepOne E call ops o (Ts j) { Hs j with low:=(Hs j).n }=some (Ts (j+1),H1s j))∧(∀ j,k≤j→j < ops.size→(Hs j).n≤(H1s j).low∨barrierB ops.toList j=true) ∧
  (∀ j,k≤j→j < ops.size→Hs (j+1)={ H1s j with low:=min (Hs j).low (H1s j).low })
 | [],k,T,T',H,H',hl,h=>by
  cases h
  have hk:ops.size≤k:=by have:=List.drop_eq_nil_iff.1 hl;simpa using this
  exact ⟨fun _=>T,fun _=>H,fun _=>H,rfl,rfl,rfl,rfl,(fun j o hj ho=>by have:=(Array.getElem?_eq_some_iff.1 ho).1;omega),(fun j hj hs=>by omega),(fun j hj hs=>by omega)⟩
 | o::l,k,T,T',H,H',hl,h=>by
  have hk:k < ops.size:=by
   rcases Nat.lt_or_ge k ops.size with h | h
   ·exact h
   ·rw [List.drop_eq_nil_of_le (by simpa using h)] at hl;cases hl
  have hok:ops[k]?=some o:=by
   have:(ops.toList.drop k)[0]?=some o:=by rw [hl];rfl
   rw [List.getElem?_drop] at this
   simpa using this
  have hl':ops.toList.drop (k+1)=l:=by rw [← List.drop_drop,hl];rfl
  unfold evDraw at h
  split at h
  ·rename_i T1 H1 h1
   split at h
   ·rename_i hq
    obtain ⟨Ts,Hs,H1s,a1,a2,a3,a4,a5,a6,a7⟩:=run_of E call ops l (k+1) _ _ _ _ hl' h
    refine ⟨fun j=>if j=k then T else Ts j,fun j=>if j=k then H else Hs j,fun j=>if j=k then H1 else H1s j,by simp,by simp,?_,?_,fun j o' hj ho'=>?_,fun j hj hs=>?_,fun j hj hs=>?_⟩
    ·simp only [List.length_cons];rw [if_neg (by omega),← a3];congr 1;omega
    ·simp only [List.length_cons];rw [if_neg (by omega),← a4];congr 1;omega
    ·by_cases e:j=k
     ·subst e
      rw [hok] at ho';cases ho'
      simp only [if_true]
      rw [if_neg (by omega),a1]
      exact h1
     ·simp only [e,if_false]
      rw [if_neg (by omega)]
      exact a5 j o' (by omega) ho'
    ·by_cases e:j=k
     ·subst e;simpa using hq
     ·simp only [e,if_false];exact a6 j (by omega) hs
    ·by_cases e:j=k
     ·subst e;simp only [if_true];rw [if_neg (by omega),a2]
     ·simp only [e,if_false];rw [if_neg (by omega)];exact a7 j (by omega) hs
   ·cases h
  ·cases h
section
variable {base:Nat} {μ μ1:Mp} {H H' H1:Mem} {w w':World} {P:Program}
/-- The rows below N. -/
def cut (μ:Mp) (N:Nat):Mp:=fun i=>if i < N then μ i else none
theorem cut_some {N i:Nat} {m:MA} (h:cut μ N i=some m):i < N∧μ i=some m:=by
 unfold cut at h
 split at h
 ·rename_i hi;exact ⟨hi,h⟩
 ·cases h
theorem cut_of {N i:Nat} {m:MA} (hi:i < N) (h:μ i=some m):cut μ N i=some m:=by unfold cut;rw [if_pos hi];exact h
theorem cut_all {N:Nat} (h:∀ i m,μ i=some m→i < N):cut μ N=μ:=by
 funext i
 unfold cut
 split
 ·rfl
 ·rename_i hi
  cases hm:μ i with
  | none=>rfl
  | some m=>exact absurd (h i m hm) hi
theorem Rl.agree (R:Rl base μ H w) (W:WF H') (hn:H.n≤H'.n) (ho:∀ i,i < H.n→H'.obs.get i=H.obs.get i) (hg:∀ f,f < H.n→H'.gens.get f=H.gens.get f):Rl base μ H' w:=by
 have how:∀ i m,μ i=some m→owner H' i=owner H i:=fun i m h=>owner_of (ho i (R.lt h))
 refine ⟨W,R.bd,fun i m h=>?_,fun i m b h hb=>?_,fun i m es c h hb=>?_,fun i j mi mj h1 h2 hb=>?_⟩
 ·rw [ho i (R.lt h)];exact R.has i m h
 ·have hb':=hb
  rw [ho i (R.lt h)] at hb'
  refine (R.row i m b h hb').keep (.refl μ) (fun ha=>?_) rfl
  unfold Blk.alive at ha ⊢
  cases hr:b.ro with
  | true=>rfl
  | false =>
   rw [hr] at ha
   have hf:=(R.wf.fam i b hb' hr).1
   unfold Mem.gen at ha ⊢
   rw [hg b.fam (by have:=R.lt h;omega)] at ha
   exact ha
 ·rw [ho i (R.lt h)] at hb
  exact R.map i m es c h hb
 ·rw [how i mi h1,how j mj h2];exact R.apart i j mi mj h1 h2 hb
theorem Rl.world (R:Rl base μ H w) (hs:w.heap.size≤w'.heap.size) (hh:∀ B,B < w.heap.size→w'.heap[B]?=w.heap[B]?):Rl base μ H w' :=
 ⟨R.wf,Nat.le_trans R.bd hs,R.has,fun i m b h hb=>(R.row i m b h hb).keep (.refl μ) (fun x=>x) (hh _ (R.blk_lt h)),fun i m es c h hb=>(R.map i m es c h hb).keep (.refl μ) (hh _ (R.blk_lt h)),R.apart⟩
theorem Rl.relow (R:Rl base μ H w) (l:Nat):Rl base μ { H with low:=l } w :=
 R.agree (R.wf.low l) (Nat.le_refl _) (fun _ _=>rfl) (fun _ _=>rfl)
def mix (μ μ1:Mp) (N N':Nat):Mp:=fun i=>if i < N then μ i else if i < N' then μ1 i else μ i
/-- What an operation of the middle has made is laid beside the rest. -/
theorem Rl.merge {N N' M:Nat} (RA:Rl base (cut μ M) H w) (RB:Rl base μ1 H1 w) (hN:N≤N') (hM:N'≤M) (h1n:H1.n=N') (ho:∀ i,i < N'→H.obs.get i=H1.obs.get i) (hg:∀ f,f < N'→H.gens.get f=H1.gens.get f)
  (hlow:∀ i m,μ1 i=some m→i < N→μ i=some m) (hext:∀ i m,μ i=some m→i < N→μ1 i=some m) (hfree:∀ i,N≤i→i < N'→μ i=none)
  (hblk:∀ i m,μ1 i=some m→N≤i→∀ j mj,μ j=some mj→N'≤j→j < M→mj.at_.block=m.at_.block→owner H j=owner H1 i):Rl base (cut (mix μ μ1 N N') M) H w:=by
 have e1:Ext μ1 (cut (mix μ μ1 N N') M):=fun i m h=>by
  have hi:i < N':=by rw [← h1n];exact RB.lt h
  refine cut_of (by omega) ?_
  unfold mix
  by_cases hl:i < N
  ·rw [if_pos hl];exact hlow i m h hl
  ·rw [if_neg hl,if_pos hi];exact h
 have e2:Ext (cut μ M) (cut (mix μ μ1 N N') M):=fun i m h=>by
  obtain ⟨hi,hm⟩:=cut_some h
  refine cut_of hi ?_
  unfold mix
  by_cases hl:i < N
  ·rw [if_pos hl];exact hm
  ·rw [if_neg hl]
   by_cases hl':i < N'
   ·rw [hfree i (by omega) hl'] at hm;cases hm
   ·rw [if_neg hl'];exact hm
 -- each row is one of the one, or of the other
 have parts:∀ i m,cut (mix μ μ1 N N') M i=some m→(i < N'∧μ1 i=some m)∨(N'≤i∧i < M∧μ i=some m):=fun i m h=>by
  obtain ⟨hi,hm⟩:=cut_some h
  unfold mix at hm
  by_cases hl:i < N
  ·rw [if_pos hl] at hm;exact .inl ⟨by omega,hext i m hm hl⟩
  ·rw [if_neg hl] at hm
   by_cases hl':i < N'
   ·rw [if_pos hl'] at hm;exact .inl ⟨hl',hm⟩
   ·rw [if_neg hl'] at hm;exact .inr ⟨by omega,hi,hm⟩
 have ow:∀ i,i < N'→owner H i=owner H1 i:=fun i hi=>owner_of (ho i hi)
 refine ⟨RA.wf,RA.bd,fun i m h=>?_,fun i m b h hb=>?_,fun i m es c h hb=>?_,fun i j mi mj h1 h2 hb=>?_⟩
 ·rcases parts i m h with ⟨hi,hm⟩ | ⟨h1,h2,hm⟩
  ·rw [ho i hi];exact RB.has i m hm
  ·exact RA.has i m (cut_of h2 hm)
 ·rcases parts i m h with ⟨hi,hm⟩ | ⟨h1,h2,hm⟩
  ·have hb':=hb
   rw [ho i hi] at hb'
   refine (RB.row i m b hm hb').keep e1 (fun ha=>?_) rfl
   unfold Blk.alive at ha ⊢
   cases hr:b.ro with
   | true=>rfl
   | false =>
    rw [hr] at ha
    have hf:=(RB.wf.fam i b hb' hr).1
    unfold Mem.gen at ha ⊢
    rw [hg b.fam (by omega)] at ha
    exact ha
  ·exact (RA.row i m b (cut_of h2 hm) hb).keep e2 (fun x=>x) rfl
 ·rcases parts i m h with ⟨hi,hm⟩ | ⟨h1,h2,hm⟩
  ·rw [ho i hi] at hb
   exact (RB.map i m es c hm hb).keep e1 rfl
  ·exact (RA.map i m es c (cut_of h2 hm) hb).keep e2 rfl
 ·rcases parts i mi h1 with ⟨hi,hmi⟩ | ⟨a1,a2,hmi⟩<;>rcases parts j mj h2 with ⟨hj,hmj⟩ | ⟨b1,b2,hmj⟩
  ·rw [ow i hi,ow j hj];exact RB.apart i j mi mj hmi hmj hb
  ·by_cases hl:i < N
   ·exact RA.apart i j mi mj (cut_of (by omega) (hlow i mi hmi hl)) (cut_of b2 hmj) hb
   ·rw [ow i hi];exact (hblk i mi hmi (by omega) j mj hmj b1 b2 hb.symm).symm
  ·by_cases hl:j < N
   ·exact RA.apart i j mi mj (cut_of a2 hmi) (cut_of (by omega) (hlow j mj hmj hl)) hb
   ·rw [ow j hj];exact hblk j mj hmj (by omega) i mi hmi a1 a2 hb
  ·exact RA.apart i j mi mj (cut_of a2 hmi) (cut_of b2 hmj) hb
end
end Go.Proofs.YtmndbhgbngkakaaDoor.E
end
section
/- Regions that draw their order: the proof. No condition. -/
namespace Go.Proofs.YtmndbhgbngkakaaDoor.E
open Go Go.RowKit
set_option linter.all false

section
variable {E : Env} {call : Call} {ops : Array Oper} {Ts : Nat → Tr Value} {Hs H1s : Nat → Mem} {base nt : Nat} {μ0 : Mp} {w0 : World}
def isBar (ops : Array Oper) (Hs H1s : Nat → Mem) (k : Nat) : Prop := ∃ o, ops[k]? = some o ∧ inert o = false ∧ ¬ ((Hs k).n ≤ (H1s k).low)
def wrs (ops : Array Oper) (k : Nat) (t : Tmp) : Prop := ∃ o, ops[k]? = some o ∧ o.dst = some t
theorem Run.a (r : Run E call ops Ts Hs H1s) (ha : CallA call) {k : Nat} (hk : k < ops.size) (W : WF (Hs k)) : AStp { Hs k with low := (Hs k).n } (H1s k) ∧ AStp (Hs k) (Hs (k + 1)) := by
  have h := r.step k _ (Array.getElem?_eq_getElem hk)
  have S := (stepOne_a E ha h (W.low _)).1
  exact ⟨S, by rw [r.next k hk]; exact S.relow⟩
theorem Run.wf (r : Run E call ops Ts Hs H1s) (ha : CallA call) (W : WF (Hs 0)) : ∀ k, k ≤ ops.size → WF (Hs k)
  | 0, _ => W
  | k + 1, hk => by
    have W' := Run.wf r ha W k (by omega)
    exact (r.a ha (by omega) W').2.wf W'
theorem Run.mono (r : Run E call ops Ts Hs H1s) (ha : CallA call) (W : WF (Hs 0)) (k : Nat) : ∀ d, k + d ≤ ops.size → AStp (Hs k) (Hs (k + d))
  | 0, _ => .refl _
  | d + 1, hk => (Run.mono r ha W k d (by omega)).trans (r.wf ha W k (by omega)) (r.a ha (k := k + d) (by omega) (r.wf ha W _ (by omega))).2
theorem Run.le (r : Run E call ops Ts Hs H1s) (ha : CallA call) (W : WF (Hs 0)) {k k' : Nat} (h : k ≤ k') (hk : k' ≤ ops.size) : AStp (Hs k) (Hs k') := by
  obtain ⟨d, rfl⟩ : ∃ d, k' = k + d := ⟨k' - k, by omega⟩
  exact r.mono ha W k d hk
theorem Run.agree1 (r : Run E call ops Ts Hs H1s) (ha : CallA call) (W : WF (Hs 0)) (hok : ops.toList.all (okOp nt) = true) {k : Nat} (hk : k < ops.size) (hb : ¬ isBar ops Hs H1s k) :
    (∀ i, i < (Hs k).n → (Hs (k + 1)).obs.get i = (Hs k).obs.get i) ∧ ∀ f, f < (Hs k).n → (Hs (k + 1)).gens.get f = (Hs k).gens.get f := by
  have hko := Array.getElem?_eq_getElem hk
  have h := r.step k _ hko
  by_cases hi : inert ops[k] = true
  · have ho := List.all_eq_true.1 hok ops[k] (Array.mem_toList_iff.2 (Array.getElem_mem hk))
    simp only [okOp, Bool.and_eq_true] at ho
    have hH : H1s k = { Hs k with low := (Hs k).n } := (stepOne_i E hi ho.2 h).1
    rw [r.next k hk, hH]
    exact ⟨fun _ _ => rfl, fun _ _ => rfl⟩
  · have hq : (Hs k).n ≤ (H1s k).low := Classical.byContradiction fun hc => hb ⟨_, hko, by simpa using hi, hc⟩
    have S := (r.a ha hk (r.wf ha W k (by omega))).1
    have W' := r.wf ha W k (by omega)
    rw [r.next k hk]
    exact ⟨fun i hi => S.obs i hi fun f hf => by have := (owner_lt W' (i := i) (f := f) hf).1; have : i < (Hs k).n := hi; omega, fun f hf => S.gens f hf (by have : f < (Hs k).n := hf; omega)⟩
theorem Run.agree (r : Run E call ops Ts Hs H1s) (ha : CallA call) (W : WF (Hs 0)) (hok : ops.toList.all (okOp nt) = true) (k : Nat) : ∀ d, k + d ≤ ops.size → (∀ b, k ≤ b → b < k + d → ¬ isBar ops Hs H1s b) →
    (∀ i, i < (Hs k).n → (Hs (k + d)).obs.get i = (Hs k).obs.get i) ∧ ∀ f, f < (Hs k).n → (Hs (k + d)).gens.get f = (Hs k).gens.get f
  | 0, _, _ => ⟨fun _ _ => rfl, fun _ _ => rfl⟩
  | d + 1, hk, hb => by
    obtain ⟨h1, h2⟩ := Run.agree r ha W hok k d (by omega) (fun b x y => hb b x (by omega))
    obtain ⟨g1, g2⟩ := r.agree1 ha W hok (k := k + d) (by omega) (hb _ (by omega) (by omega))
    have hn := (r.mono ha W k d (by omega)).n
    exact ⟨fun i hi => (g1 i (by omega)).trans (h1 i hi), fun f hf => (g2 f (by omega)).trans (h2 f hf)⟩
theorem Run.ts (r : Run E call ops Ts Hs H1s) (ha : CallA call) (W : WF (Hs 0)) (k : Nat) (t : Tmp) : ∀ d, k + d ≤ ops.size → (∀ i, k ≤ i → i < k + d → ¬ wrs ops i t) → (Ts (k + d)).get t = (Ts k).get t
  | 0, _, _ => rfl
  | d + 1, hk, hb => by
    have ih := Run.ts r ha W k t d (by omega) (fun i x y => hb i x (by omega))
    have hlt : k + d < ops.size := by omega
    have hok := Array.getElem?_eq_getElem hlt
    obtain ⟨v, hv⟩ := (stepOne_a E ha (r.step (k + d) _ hok) ((r.wf ha W _ (by omega)).low _)).2
    rw [← ih]
    show (Ts (k + d + 1)).get t = _
    rw [hv]
    have hn := hb (k + d) (by omega) (by omega)
    cases hd : (ops[k + d]).dst with
    | none => rfl
    | some d' =>
      simp only [putT]
      exact Tr.get_set_ne _ _ fun e => hn ⟨_, hok, by rw [hd, e]⟩
/-- What holds once the operations that are listed have been carried out. -/
structure Inv (ops : Array Oper) (Ts : Nat → Tr Value) (Hs H1s : Nat → Mem) (base nt : Nat) (ds : List Deferred) (μ0 : Mp) (w0 : World) (listed : Array Bool) (a : Act) (w : World) (μ : Mp) : Prop where
  lsz : listed.size = ops.size
  asz : a.tmps.size = nt
  defers : a.defers = ds
  dc : ∀ (j : Nat) o e, listed.getD j false = true → ops[j]? = some o → e ∈ o.after → Region.binds .any e = true → listed.getD e.on false = true
  ext : Ext μ0 μ
  ids : ∀ i m, μ i = some m → i < (Hs ops.size).n ∧ ∀ k, k < ops.size → (Hs k).n ≤ i → i < (Hs (k + 1)).n → listed.getD k false = true
  mem : ∀ k, k ≤ ops.size → (∀ b, b < ops.size → isBar ops Hs H1s b → (b < k ↔ listed.getD b false = true)) → Rl base (cut μ (Hs k).n) (Hs k) w
  tmp : ∀ t k, k ≤ ops.size → (∀ i, i < k → wrs ops i t → listed.getD i false = true) → (∀ i, k ≤ i → wrs ops i t → listed.getD i false = false) → VR (cut μ (Hs k).n) (((Ts k).get t).getD undef) (a.tmps.getD t undef)
  new : ∀ i m, μ i = some m → μ0 i = none → (Hs 0).n ≤ i ∧ (w0.heap.size ≤ m.at_.block ∨ ∃ j mj, μ0 j = some mj ∧ mj.at_.block = m.at_.block ∧ owner (Hs 0) j = owner (Hs ops.size) i)
  foot : ∀ B, B < w0.heap.size → (∀ i m, μ0 i = some m → m.at_.block = B → ∀ f, owner (Hs 0) i = some f → f < (Hs ops.size).low) → w.heap[B]? = w0.heap[B]?
  os : w.os = w0.os
  tape : w.tape = w0.tape
  out : w.output = w0.output
  size : w0.heap.size ≤ w.heap.size
theorem setD {listed : Array Bool} {k i : Nat} (h : k < listed.size) : (listed.setIfInBounds k true).getD i false = if i = k then true else listed.getD i false := by
  simp only [Array.getD_eq_getD_getElem?, Array.getElem?_setIfInBounds]
  by_cases e : k = i
  · subst e; simp [h]
  · rw [if_neg e, if_neg (Ne.symm e)]
variable {ds : List Deferred} {listed : Array Bool} {a : Act} {w : World} {μ : Mp}
theorem Inv.anc (I : Inv ops Ts Hs H1s base nt ds μ0 w0 listed a w μ) {i j : Nat} (h : Anc ops i j) (hj : listed.getD j false = true) : listed.getD i false = true := by
  induction h with
  | one h he hb => exact I.dc _ _ _ hj h he hb
  | more h he hb _ ih => exact ih (I.dc _ _ _ hj h he hb)
/-- The temporaries, once one more has been carried out. -/
theorem Inv.tmp_step (I : Inv ops Ts Hs H1s base nt ds μ0 w0 listed a w μ) (r : Run E call ops Ts Hs H1s) (ha : CallA call) (W : WF (Hs 0)) (hD : DrawOk ops) {k : Nat} {o : Oper} (hk : ops[k]? = some o) (hdst : ∀ t, o.dst = some t → t < nt)
    (hun : listed.getD k false = false) {μ' : Mp} {v v' : Value} (hv : Ts (k + 1) = putT (Ts k) o.dst v) (he : ∀ N, Ext (cut μ N) (cut μ' N)) (hvr : ∀ k', k < k' → k' ≤ ops.size → VR (cut μ' (Hs k').n) v v') :
    ∀ t k', k' ≤ ops.size → (∀ i, i < k' → wrs ops i t → (listed.setIfInBounds k true).getD i false = true) → (∀ i, k' ≤ i → wrs ops i t → (listed.setIfInBounds k true).getD i false = false) →
      VR (cut μ' (Hs k').n) (((Ts k').get t).getD undef) ((a.put o.dst v').tmps.getD t undef) := by
  intro t k' hk' h1 h2
  have hks : k < ops.size := (Array.getElem?_eq_some_iff.1 hk).1
  have hset : ∀ i, (listed.setIfInBounds k true).getD i false = if i = k then true else listed.getD i false := fun i => setD (by rw [I.lsz]; exact hks)
  by_cases hw : o.dst = some t
  · have hkk : k < k' := by
      rcases Nat.lt_or_ge k k' with h | h
      · exact h
      · have := h2 k h ⟨o, hk, hw⟩
        rw [hset, if_pos rfl] at this
        cases this
    -- nobody else writes it in between
    have hno : ∀ i, k + 1 ≤ i → i < k' → ¬ wrs ops i t := fun i hi hi' hwr => by
      have hd := h1 i hi' hwr
      rw [hset, if_neg (by omega)] at hd
      obtain ⟨oi, hoi, hdi⟩ := hwr
      have hc : conf ops o oi = true := by simp [conf, hw, hdi]
      have := I.anc (hD.conf k i o oi (by omega) hk hoi hc) hd
      rw [hun] at this
      cases this
    obtain ⟨d, rfl⟩ : ∃ d, k' = k + 1 + d := ⟨k' - (k + 1), by omega⟩
    rw [r.ts ha W (k + 1) t d hk' hno, hv, hw]
    simp only [putT, Tr.get_set_same, Option.getD_some, Act.put]
    have hlt : t < a.tmps.size := by rw [I.asz]; exact hdst t hw
    have : (a.tmps.setIfInBounds t v').getD t undef = v' := by simp [Array.getD_eq_getD_getElem?, hlt]
    rw [this]
    exact hvr _ hkk hk'
  · have hold := I.tmp t k' hk' (fun i hi hwr => by
        have := h1 i hi hwr
        rw [hset] at this
        split at this
        · rename_i e
          subst e
          obtain ⟨o', ho', hd'⟩ := hwr
          rw [hk] at ho'; cases ho'
          exact absurd hd' hw
        · exact this) (fun i hi hwr => by
        have := h2 i hi hwr
        rw [hset] at this
        split at this
        · cases this
        · exact this)
    have e2 : (a.put o.dst v').tmps.getD t undef = a.tmps.getD t undef := by
      cases hd : o.dst with
      | none => rfl
      | some d =>
        have hne : d ≠ t := fun e => hw (by rw [hd, e])
        simp [Act.put, Array.getD_eq_getD_getElem?, Array.getElem?_setIfInBounds, hne]
    rw [e2]
    exact hold.mono (he _)
theorem put_size (a : Act) (d : Option Tmp) (v : Value) : (a.put d v).tmps.size = a.tmps.size := by cases d <;> simp [Act.put]
theorem put_defers (a : Act) (d : Option Tmp) (v : Value) : (a.put d v).defers = a.defers := by cases d <;> rfl
theorem Inv.step (hE : EnvOk E) (hc : CallC E.P base call) (ha : CallA call) (r : Run E call ops Ts Hs H1s) (R0 : Rl base μ0 (Hs 0) w0) (W : WF (Hs 0)) (hD : DrawOk ops) (hok : ops.toList.all (okOp nt) = true) (I : Inv ops Ts Hs H1s base nt ds μ0 w0 listed a w μ)
    {k : Nat} (hr : k ∈ Region.ready .any ops listed) (Q : Exit → Act → World → Prop) :
    wpOp E.P ops Q k (fun a' w' => ∃ μ', Inv ops Ts Hs H1s base nt ds μ0 w0 (listed.setIfInBounds k true) a' w' μ') a w := by
  obtain ⟨hun0, o, hk, hpre⟩ := mem_ready.1 hr
  have hks : k < ops.size := (Array.getElem?_eq_some_iff.1 hk).1
  have hun : listed.getD k false = false := by
    have hl : k < listed.size := by rw [I.lsz]; exact hks
    simp only [Array.getD_eq_getD_getElem?, Array.getElem?_eq_getElem hl, Option.getD_some] at hun0 ⊢
    exact hun0
  have hset : ∀ i, (listed.setIfInBounds k true).getD i false = if i = k then true else listed.getD i false := fun i => setD (by rw [I.lsz]; exact hks)
  have hoks := List.all_eq_true.1 hok o (Array.mem_toList_iff.2 (Array.mem_of_getElem? hk))
  simp only [okOp, Bool.and_eq_true] at hoks
  obtain ⟨hd0, ho⟩ := hoks
  have hdst : ∀ t, o.dst = some t → t < nt := fun t ht => by rw [ht] at hd0; simpa using hd0
  have hdsta : ∀ t, o.dst = some t → t < a.tmps.size := fun t ht => by rw [I.asz]; exact hdst t ht
  -- what it waits for has been done; what waits for it has not
  have ancD : ∀ i, Anc ops i k → listed.getD i false = true := fun i h => by
    cases h with
    | one h he hb => rw [hk] at h; cases h; exact hpre _ he hb
    | more h he hb t => rw [hk] at h; cases h; exact I.anc t (hpre _ he hb)
  have notD : ∀ j, Anc ops k j → listed.getD j false = false := fun j h => by
    cases hj : listed.getD j false with
    | false => rfl
    | true => have := I.anc h hj; rw [hun] at this; cases this
  have hlook : ∀ t, t ∈ looks ops o → VR (cut μ (Hs k).n) (((Ts k).get t).getD undef) (a.tmps.getD t undef) := fun t ht => by
    refine I.tmp t k (by omega) (fun i hi hw => ?_) (fun i hi hw => ?_)
    · obtain ⟨oi, hoi, hdi⟩ := hw
      exact ancD i (hD.conf i k oi o hi hoi hk (by simp [conf, hdi, ht]))
    · obtain ⟨oi, hoi, hdi⟩ := hw
      rcases Nat.lt_or_ge k i with h | h
      · exact notD i (hD.conf k i o oi h hk hoi (by simp [conf, hdi, ht]))
      · obtain rfl : i = k := by omega
        exact hun
  have dc' : ∀ (j : Nat) o e, (listed.setIfInBounds k true).getD j false = true → ops[j]? = some o → e ∈ o.after → Region.binds .any e = true → (listed.setIfInBounds k true).getD e.on false = true := fun j oj e hj hoj he hb => by
    rw [hset] at hj ⊢
    split
    · rfl
    · split at hj
      · rename_i e1; subst e1; rw [hk] at hoj; cases hoj; exact hpre e he hb
      · exact I.dc j oj e hj hoj he hb
  have idsMono : ∀ i m, μ i = some m → i < (Hs ops.size).n ∧ ∀ q, q < ops.size → (Hs q).n ≤ i → i < (Hs (q + 1)).n → (listed.setIfInBounds k true).getD q false = true := fun i m h => by
    obtain ⟨x, y⟩ := I.ids i m h
    exact ⟨x, fun q hq h1 h2 => by rw [hset]; split; · rfl
                                   · exact y q hq h1 h2⟩
  have hstep := r.step k o hk
  have nk : (Hs (k + 1)).n = (H1s k).n := by rw [r.next k hks]
  have Wk := r.wf ha W k (by omega)
  have goal : ∀ {K : Act → World → Prop}, (if Region.wanted o (yielded ops a.tmps) = true then o.wp E.P a w K Q else K (a.put o.dst undef) w) → wpOp E.P ops Q k K a w := fun {K} h => by
    unfold wpOp
    simp only [hk]
    split at h
    · rename_i hw; rw [if_pos hw]; exact .inl h
    · rename_i hw; rw [if_neg hw]; exact h
  apply goal
  by_cases hin : inert o = true
  · -- it looks at no memory
    obtain ⟨hH, v, hv, hst⟩ := stepOne_i E hin ho hstep
    have hnb : ¬ isBar ops Hs H1s k := fun ⟨o', h1, h2, _⟩ => by rw [hk] at h1; cases h1; rw [hin] at h2; cases h2
    refine hst (cut μ (Hs k).n) w a _ Q hlook fun v' hvr => ⟨μ, by simpa using I.lsz, by rw [put_size]; exact I.asz, by rw [put_defers]; exact I.defers, dc', I.ext, idsMono, fun k' hk' hcut => ?_, ?_, I.new, I.foot, I.os, I.tape, I.out, I.size⟩
    · refine I.mem k' hk' fun b hb hbar => ?_
      have := hcut b hb hbar
      rw [hset] at this
      split at this
      · rename_i e; subst e; exact absurd hbar hnb
      · exact this
    · refine I.tmp_step r ha W hD hk hdst hun hv (fun N => .refl _) fun k' h1 h2 => hvr.mono fun i m h => ?_
      obtain ⟨hi, hm⟩ := cut_some h
      have := (r.le ha W (Nat.le_of_lt h1) h2).n
      exact cut_of (by omega) hm
  · have hin : inert o = false := by simpa using hin
    obtain ⟨v, hv, hst⟩ := stepOne_c E hE hc ho hstep
    -- it is ordered against each barrier
    have hcutk : ∀ b, b < ops.size → isBar ops Hs H1s b → (b < k ↔ listed.getD b false = true) := fun b hb ⟨ob, hob, hib, hqb⟩ => by
      by_cases hbk : b = k
      · subst hbk; rw [hun]; simp
      · have hbar := (r.quiet b hb).resolve_left hqb
        rcases barrier_spec hbar k o hk with h | h | h | h
        · omega
        · rw [hin] at h; cases h
        · have := hD.back _ _ h; rw [notD b h]; simp; omega
        · have := hD.back _ _ h; rw [ancD b h]; simp; omega
    have Rk := I.mem k (by omega) hcutk
    have Rk' := Rk.relow (Hs k).n
    refine hst (cut μ (Hs k).n) w a _ Q Rk' hlook fun μ1 v' w' S hvr => ?_
    have SA := (r.a ha hks Wk).1
    have nle : (Hs k).n ≤ (H1s k).n := SA.n
    have R1 : Rl base μ1 (Hs (k + 1)) w' := by rw [r.next k hks]; exact S.rl.relow _
    have hl1 : ∀ i m, μ1 i = some m → i < (Hs (k + 1)).n := fun i m h => R1.lt h
    have low1 : ∀ i m, μ1 i = some m → i < (Hs k).n → μ i = some m := fun i m h hi => by
      cases hc : cut μ (Hs k).n i with
      | none => have := (S.new i m h hc).1; simp at this; omega
      | some m2 =>
        have := S.ext i m2 hc
        rw [h] at this; cases this
        exact (cut_some hc).2
    have ext1 : ∀ i m, μ i = some m → i < (Hs k).n → μ1 i = some m := fun i m h hi => S.ext i m (cut_of hi h)
    have ownk : ∀ i, i < (Hs k).n → owner (H1s k) i = owner (Hs k) i := fun i hi => SA.own (Wk.low _) i hi
    have R1n := nk
    -- the rows, old and new
    have hsub : Ext μ (mix μ μ1 (Hs k).n (Hs (k + 1)).n) := fun i m h => by
      unfold mix
      by_cases hi : i < (Hs k).n
      · rw [if_pos hi]; exact h
      · rw [if_neg hi]
        by_cases hi' : i < (Hs (k + 1)).n
        · have := (I.ids i m h).2 k hks (by omega) hi'; rw [hun] at this; cases this
        · rw [if_neg hi']; exact h
    have hfree : ∀ i, (Hs k).n ≤ i → i < (Hs (k + 1)).n → μ i = none := fun i h1 h2 => by
      cases hm : μ i with
      | none => rfl
      | some m => have := (I.ids i m hm).2 k hks h1 h2; rw [hun] at this; cases this
    have hsub1 : ∀ N, (Hs (k + 1)).n ≤ N → Ext μ1 (cut (mix μ μ1 (Hs k).n (Hs (k + 1)).n) N) := fun N hN i m h => by
      have hi := hl1 i m h
      refine cut_of (by omega) ?_
      unfold mix
      by_cases hl : i < (Hs k).n
      · rw [if_pos hl]; exact low1 i m h hl
      · rw [if_neg hl, if_pos hi]; exact h
    have parts : ∀ i m, mix μ μ1 (Hs k).n (Hs (k + 1)).n i = some m → μ i = some m ∨ ((Hs k).n ≤ i ∧ i < (Hs (k + 1)).n ∧ μ1 i = some m) := fun i m h => by
      unfold mix at h
      by_cases hl : i < (Hs k).n
      · rw [if_pos hl] at h; exact .inl h
      · rw [if_neg hl] at h
        by_cases hl' : i < (Hs (k + 1)).n
        · rw [if_pos hl'] at h; exact .inr ⟨by omega, hl', h⟩
        · rw [if_neg hl'] at h; exact .inl h
    have nle' : (Hs k).n ≤ (Hs (k + 1)).n := by rw [nk]; exact nle
    have lowk : (Hs ops.size).low ≤ (H1s k).low := by
      have h1 := (r.le ha W (show k + 1 ≤ ops.size by omega) (Nat.le_refl _)).low
      rw [r.next k hks] at h1
      simp at h1; omega
    have own0 : ∀ i, i < (Hs 0).n → owner (Hs k) i = owner (Hs 0) i := fun i hi => (r.le ha W (Nat.zero_le k) (by omega)).own W i hi
    have ownn : ∀ i, i < (Hs k).n → owner (Hs ops.size) i = owner (Hs k) i := fun i hi => (r.le ha W (show k ≤ ops.size by omega) (Nat.le_refl _)).own Wk i hi
    have ownn1 : ∀ i, i < (Hs (k + 1)).n → owner (Hs ops.size) i = owner (H1s k) i := fun i hi => by
      rw [(r.le ha W (show k + 1 ≤ ops.size by omega) (Nat.le_refl _)).own (r.wf ha W _ (by omega)) i hi, r.next k hks]
      rfl
    have memk : ∀ k', k' ≤ ops.size → (∀ b, b < ops.size → isBar ops Hs H1s b → (b < k' ↔ (listed.setIfInBounds k true).getD b false = true)) → Rl base (cut (mix μ μ1 (Hs k).n (Hs (k + 1)).n) (Hs k').n) (Hs k') w' := by
      intro k' hk' hcut
      by_cases hbar : isBar ops Hs H1s k
      · -- a barrier
        have hkk : k < k' := by have := hcut k hks hbar; rw [hset, if_pos rfl] at this; exact this.2 rfl
        obtain ⟨_, hq0, hq1, hq2⟩ := hbar
        have hbb := (r.quiet k hks).resolve_left hq2
        have hnb : ∀ b, k + 1 ≤ b → b < k' → ¬ isBar ops Hs H1s b := fun b h1 h2 hb => by
          have h3 := (hcut b (by omega) hb).1 h2
          rw [hset, if_neg (by omega)] at h3
          have := (hcutk b (by omega) hb).2 h3
          omega
        -- nothing is mapped from here on
        have hno : ∀ i m, μ i = some m → i < (Hs k).n := fun i m h => by
          obtain ⟨x, y⟩ := I.ids i m h
          rcases Nat.lt_or_ge i (Hs k).n with hlt | hge
          · exact hlt
          · exfalso
            -- which operation has made it?
            have find : ∀ d, k + d ≤ ops.size → i < (Hs (k + d)).n → ∃ q, k ≤ q ∧ q < ops.size ∧ (Hs q).n ≤ i ∧ i < (Hs (q + 1)).n := by
              intro d
              induction d with
              | zero => intro _ h; exact absurd h (by simpa using hge)
              | succ d ih =>
                intro hd h
                rcases Nat.lt_or_ge i (Hs (k + d)).n with hl | hg
                · exact ih (by omega) hl
                · exact ⟨k + d, by omega, by omega, hg, h⟩
            obtain ⟨q, hq, hqs, h1, h2⟩ := find (ops.size - k) (by omega) (by rw [show k + (ops.size - k) = ops.size by omega]; exact x)
            have hDq := y q hqs h1 h2
            have hoq := Array.getElem?_eq_getElem hqs
            rcases barrier_spec hbb q _ hoq with h | h | h | h
            · subst h; rw [hun] at hDq; cases hDq
            · have hoo := List.all_eq_true.1 hok ops[q] (Array.mem_toList_iff.2 (Array.getElem_mem hqs))
              simp only [okOp, Bool.and_eq_true] at hoo
              have hH : H1s q = { Hs q with low := (Hs q).n } := (stepOne_i E h hoo.2 (r.step q _ hoq)).1
              rw [r.next q hqs, hH] at h2
              have h2 : i < (Hs q).n := h2
              omega
            · have := hD.back _ _ h; omega
            · have := notD q h; rw [this] at hDq; cases hDq
        have he : cut (mix μ μ1 (Hs k).n (Hs (k + 1)).n) (Hs k').n = μ1 := by
          have hle := (r.le ha W (show k + 1 ≤ k' by omega) hk').n
          funext i
          cases h1 : μ1 i with
          | some m => exact hsub1 _ hle i m h1
          | none =>
            cases hc : cut (mix μ μ1 (Hs k).n (Hs (k + 1)).n) (Hs k').n i with
            | none => rfl
            | some m =>
              rcases parts i m (cut_some hc).2 with h | ⟨_, _, h⟩
              · have := ext1 i m h (hno i m h); rw [h1] at this; cases this
              · rw [h1] at h; cases h
        rw [he]
        obtain ⟨d, rfl⟩ : ∃ d, k' = k + 1 + d := ⟨k' - (k + 1), by omega⟩
        obtain ⟨g1, g2⟩ := r.agree ha W hok (k + 1) d hk' hnb
        exact R1.agree (r.wf ha W _ hk') (r.mono ha W (k + 1) d hk').n g1 g2
      · -- quiet
        have hqk : (Hs k).n ≤ (H1s k).low := Classical.byContradiction fun hc => hbar ⟨o, hk, hin, hc⟩
        have hcut0 : ∀ b, b < ops.size → isBar ops Hs H1s b → (b < k' ↔ listed.getD b false = true) := fun b hb hbb => by
          have := hcut b hb hbb
          rw [hset] at this
          split at this
          · rename_i e; subst e; exact absurd hbb hbar
          · exact this
        have RAw := I.mem k' hk' hcut0
        have hsame : ∀ B, B < w.heap.size → w'.heap[B]? = w.heap[B]? := fun B hB => S.foot B hB fun i m hm hb f hof => by
          have hi := (cut_some hm).1
          have := (owner_lt Wk (i := i) (f := f) hof).1
          omega
        have RA := RAw.world S.size hsame
        rcases Nat.lt_or_ge k k' with hkk | hkk
        · have hnb : ∀ b, k + 1 ≤ b → b < k' → ¬ isBar ops Hs H1s b := fun b h1 h2 hb => by
            have h3 := (hcut0 b (by omega) hb).1 h2
            have := (hcutk b (by omega) hb).2 h3
            omega
          obtain ⟨d, rfl⟩ : ∃ d, k' = k + 1 + d := ⟨k' - (k + 1), by omega⟩
          obtain ⟨g1, g2⟩ := r.agree ha W hok (k + 1) d hk' hnb
          refine RA.merge R1 nle' (r.mono ha W (k + 1) d hk').n rfl g1 g2 low1 ext1 hfree fun i m h1 hi j mj hj hj1 hj2 hb => ?_
          have hjb := RAw.blk_lt (cut_of hj2 hj)
          have hci : cut μ (Hs k).n i = none := by unfold cut; rw [if_neg (by omega)]
          rcases (S.new i m h1 hci).2 with h | ⟨j0, mj0, h0, hb0, ho0⟩
          · omega
          · obtain ⟨hl0, hm0⟩ := cut_some h0
            have hle := (r.mono ha W (k + 1) d hk').n
            have e1 := RAw.apart j j0 mj mj0 (cut_of hj2 hj) (cut_of (by omega) hm0) (hb.trans hb0.symm)
            rw [e1, (r.le ha W (show k ≤ k + 1 + d by omega) hk').own Wk j0 hl0]
            have e3 : owner (Hs (k + 1)) i = owner (H1s k) i := by rw [r.next k hks]; rfl
            rw [e3]
            exact ho0
        · have hle := (r.le ha W hkk (show k ≤ ops.size by omega)).n
          have he : cut (mix μ μ1 (Hs k).n (Hs (k + 1)).n) (Hs k').n = cut μ (Hs k').n := by
            funext i
            unfold cut
            split
            · unfold mix; rw [if_pos (by omega)]
            · rfl
          rw [he]
          exact RA
    refine ⟨mix μ μ1 (Hs k).n (Hs (k + 1)).n, by simpa using I.lsz, by rw [put_size]; exact I.asz, by rw [put_defers]; exact I.defers, dc', I.ext.trans hsub, fun i m h => ?_, memk, ?_, fun i m h h0 => ?_, fun B hB hf => ?_,
      S.os.trans I.os, S.tape.trans I.tape, S.out.trans I.out, Nat.le_trans I.size S.size⟩
    · rcases parts i m h with h | ⟨h1, h2, h⟩
      · exact idsMono i m h
      · refine ⟨by have := (r.le ha W (show k + 1 ≤ ops.size by omega) (Nat.le_refl _)).n; omega, fun q hq a1 a2 => ?_⟩
        rw [hset]
        split
        · rfl
        · rename_i hne
          exfalso
          rcases Nat.lt_or_ge q k with hl | hg
          · have := (r.le ha W (show q + 1 ≤ k by omega) (by omega)).n; omega
          · have := (r.le ha W (show k + 1 ≤ q by omega) (by omega)).n; omega
    · refine I.tmp_step r ha W hD hk hdst hun hv (fun N i m h => ?_) fun k' h1 h2 => hvr.mono (hsub1 _ (r.le ha W (show k + 1 ≤ k' by omega) h2).n)
      obtain ⟨hi, hm⟩ := cut_some h
      exact cut_of hi (hsub i m hm)
    · rcases parts i m h with h | ⟨h1, h2, h⟩
      · exact I.new i m h h0
      · have hn0 := (r.le ha W (Nat.zero_le k) (by omega)).n
        refine ⟨by omega, ?_⟩
        have hci : cut μ (Hs k).n i = none := by unfold cut; rw [if_neg (by omega)]
        rcases (S.new i m h hci).2 with hh | ⟨j, mj, hj, hb, hoj⟩
        · exact .inl (Nat.le_trans I.size hh)
        · obtain ⟨hjl, hjm⟩ := cut_some hj
          have hoj : owner (Hs k) j = owner (H1s k) i := hoj
          cases h00 : μ0 j with
          | some m2 =>
            have e := I.ext j m2 h00
            rw [hjm] at e; cases e
            exact .inr ⟨j, mj, h00, hb, by rw [ownn1 i h2, ← hoj, own0 j (R0.lt h00)]⟩
          | none =>
            rcases (I.new j mj hjm h00).2 with hh | ⟨j2, mj2, hj2, hb2, ho2⟩
            · exact .inl (hb ▸ hh)
            · exact .inr ⟨j2, mj2, hj2, hb2.trans hb, by rw [ho2, ownn j hjl, hoj, ownn1 i h2]⟩
    · rw [S.foot B (Nat.lt_of_lt_of_le hB I.size) (fun i m hm hb f hof => ?_), I.foot B hB hf]
      obtain ⟨hil, hmi⟩ := cut_some hm
      have hof : owner (Hs k) i = some f := hof
      cases h00 : μ0 i with
      | some m2 =>
        have e := I.ext i m2 h00
        rw [hmi] at e; cases e
        have := hf i m h00 hb f (by rw [← own0 i (R0.lt h00)]; exact hof)
        omega
      | none =>
        rcases (I.new i m hmi h00).2 with hh | ⟨j2, mj2, hj2, hb2, ho2⟩
        · omega
        · have := hf j2 mj2 hj2 (hb2.trans hb) f (by rw [ho2, ownn i hil]; exact hof)
          omega
end
end Go.Proofs.YtmndbhgbngkakaaDoor.E
end
section
/- What the evaluator yields, the program yields. No condition but those that are written out. -/
namespace Go.Proofs.YtmndbhgbngkakaaDoor.E
open Go Go.RowKit
set_option linter.all false

section
variable {E:Env} {call:Call} {ops:Array Oper} {base nt:Nat}
theorem draw_any {Ts:Nat→Tr Value} {Hs H1s:Nat→Mem} {μ0:Mp} {w0:World} {ds:List Deferred} {Q:Exit→Act→World→Prop} (hE:EnvOk E) (hc:CallC E.P base call) (ha:CallA call) (r:Run E call ops Ts Hs H1s) (R0:Rl base μ0 (Hs 0) w0) (W:WF (Hs 0)) (hD:DrawOk ops) (hok:ops.toList.all (okOp nt)=true)
  (hQ:∀ μ' a' w',Stp base μ0 (Hs 0) w0 μ' (Hs ops.size) w'→ActR μ' (Ts ops.size) a'→a'.tmps.size=nt→a'.defers=ds→Q .normal a' w') :
  ∀ (fuel:Nat) (listed:Array Bool) (a:Act) (w:World) (μ:Mp),Inv ops Ts Hs H1s base nt ds μ0 w0 listed a w μ→((List.range ops.size).filter fun i=>!listed.getD i false).length≤fuel→wpAny E.P .any ops Q fuel listed a w:=by
 -- when all are listed
 have fin:∀ (listed:Array Bool) (a:Act) (w:World) (μ:Mp),Inv ops Ts Hs H1s base nt ds μ0 w0 listed a w μ→(∀ i,i < ops.size→listed.getD i false=true)→Q .normal a w:=by
  intro listed a w μ I hall
  have hids:∀ i m,μ i=some m→i < (Hs ops.size).n:=fun i m h=>(I.ids i m h).1
  have hR:=I.mem ops.size (Nat.le_refl _) (fun b hb _=>by simp [hb,hall b hb])
  rw [cut_all hids] at hR
  have S0:=r.le ha W (Nat.zero_le ops.size) (Nat.le_refl _)
  refine hQ μ a w ⟨hR,I.ext,I.new,S0.n,S0.own W,S0.obs,S0.gens,S0.low,I.foot,I.os,I.tape,I.out,I.size⟩ ⟨fun t=>?_⟩ I.asz I.defers
  have:=I.tmp t ops.size (Nat.le_refl _) (fun i hi _=>hall i hi) (fun i hi hw=>by obtain ⟨o,ho,_⟩:=hw;have:=(Array.getElem?_eq_some_iff.1 ho).1;omega)
  rw [cut_all hids] at this
  exact this
 -- where one is not listed one is ready
 have some_ready:∀ (listed:Array Bool) (a:Act) (w:World) (μ:Mp),Inv ops Ts Hs H1s base nt ds μ0 w0 listed a w μ→∀ i,i < ops.size→listed.getD i false=false→Region.ready .any ops listed≠[]:=by
  intro listed a w μ I i
  induction i using Nat.strongRecOn with
  | _ i ih =>
   intro hi hu hnil
   by_cases hex:∃ j,j < i∧listed.getD j false=false
   ·obtain ⟨j,hj,huj⟩:=hex
    exact ih j hj (by omega) huj hnil
   ·have hmem:i∈Region.ready .any ops listed:=by
     refine mem_ready.2 ⟨?_,ops[i],Array.getElem?_eq_getElem hi,fun e he hb=>?_⟩
     ·have hl:i < listed.size:=by rw [I.lsz];exact hi
      simp only [Array.getD_eq_getD_getElem?,Array.getElem?_eq_getElem hl,Option.getD_some] at hu ⊢
      exact hu
     ·have hlt:=hD.back _ _ (Anc.one (Array.getElem?_eq_getElem hi) he hb)
      cases hq:listed.getD e.on false with
      | true=>rfl
      | false=>exact absurd ⟨_,hlt,hq⟩ hex
    rw [hnil] at hmem
    cases hmem
 have empty_all:∀ (listed:Array Bool) (a:Act) (w:World) (μ:Mp),Inv ops Ts Hs H1s base nt ds μ0 w0 listed a w μ→Region.ready .any ops listed=[]→∀ i,i < ops.size→listed.getD i false=true:=by
  intro listed a w μ I hnil i hi
  cases hq:listed.getD i false with
  | true=>rfl
  | false=>exact absurd hnil (some_ready listed a w μ I i hi hq)
 intro fuel
 induction fuel with
 | zero =>
  intro listed a w μ I hn
  have hall:∀ i,i < ops.size→listed.getD i false=true:=fun i hi=>by
   cases hq:listed.getD i false with
   | true=>rfl
   | false =>
    have hm:i∈(List.range ops.size).filter fun i=>!listed.getD i false:=List.mem_filter.2 ⟨List.mem_range.2 hi,by rw [hq];rfl⟩
    have h0:=List.length_pos_of_mem hm
    omega
  refine ⟨?_,fin _ _ _ _ I hall⟩
  cases hr:Region.ready .any ops listed with
  | nil=>rfl
  | cons j l =>
   exfalso
   have hj:j∈Region.ready .any ops listed:=by rw [hr];exact .head _
   obtain ⟨h0,o,ho,_⟩:=mem_ready.1 hj
   have hjs:=(Array.getElem?_eq_some_iff.1 ho).1
   have h1:=hall j hjs
   have hl:j < listed.size:=by rw [I.lsz];exact hjs
   simp only [Array.getD_eq_getD_getElem?,Array.getElem?_eq_getElem hl,Option.getD_some] at h0 h1
   rw [h0] at h1
   cases h1
 | succ fuel ih =>
  intro listed a w μ I hn
  refine ⟨fun hnil=>fin _ _ _ _ I (empty_all _ _ _ _ I hnil),fun k hk=>?_⟩
  refine wpOp_mono (fun a' w' h=>?_) (I.step hE hc ha r R0 W hD hok hk Q)
  obtain ⟨μ',I'⟩:=h
  refine ih _ _ _ _ I' ?_
  obtain ⟨h0,o,ho,_⟩:=mem_ready.1 hk
  have hks:=(Array.getElem?_eq_some_iff.1 ho).1
  have hkl:k < listed.size:=by rw [I.lsz];exact hks
  have hku:listed.getD k false=false:=by
   simp only [Array.getD_eq_getD_getElem?,Array.getElem?_eq_getElem hkl,Option.getD_some] at h0 ⊢
   exact h0
  have hnd:((List.range ops.size).filter fun i=>!listed.getD i false).Nodup:=List.nodup_range.filter _
  have hmem:k∈(List.range ops.size).filter fun i=>!listed.getD i false:=List.mem_filter.2 ⟨List.mem_range.2 hks,by rw [hku];rfl⟩
  have he:(List.range ops.size).filter (fun i=>!(listed.setIfInBounds k true).getD i false)=((List.range ops.size).filter fun i=>!listed.getD i false).erase k:=by
   rw [hnd.erase_eq_filter,List.filter_filter]
   apply List.filter_congr
   intro i _
   rw [setD hkl]
   by_cases e:i=k
   ·subst e;simp
   ·simp [e]
  rw [he,List.length_erase_of_mem hmem]
  omega
theorem region_draw_ok {T T':Tr Value} {H H':Mem} {μ:Mp} {w:World} {a:Act} {id:Nat} {Q:Exit→Act→World→Prop} (hE:EnvOk E) (hm:E.P.follows .mixedOrders=true) (hc:CallC E.P base call) (ha:CallA call) (hok:ops.toList.all (okOp nt)=true) (hD:drawOk ops=true)
  (h:evDraw E call ops ops.toList 0 T H=some (T',H')) (R:Rl base μ H w) (A:ActR μ T a) (hs:a.tmps.size=nt)
  (hQ:∀ μ' a' w',Stp base μ H w μ' H' w'→ActR μ' T' a'→a'.tmps.size=nt→a'.defers=a.defers→Q .normal a' w'):(Code.region id ops true).wp E.P Q a w:=by
 obtain ⟨Ts,Hs,H1s,rfl,rfl,h3,h4,h5,h6,h7⟩:=run_of E call ops ops.toList 0 _ _ _ _ rfl h
 simp only [Array.length_toList,Nat.zero_add] at h3 h4
 subst h3;subst h4
 have r:Run E call ops Ts Hs H1s:=⟨fun k o=>h5 k o (Nat.zero_le _),fun k=>h6 k (Nat.zero_le _),fun k=>h7 k (Nat.zero_le _)⟩
 have W:=R.wf
 refine wp_region_any hm ?_
 have R':Rl base μ (Hs 0) w.drew:=R.heap rfl
 have hlf:∀ i,(Array.replicate ops.size false).getD i false=false:=fun i=>by
  rw [Array.getD_eq_getD_getElem?]
  cases hq:(Array.replicate ops.size false)[i]? with
  | none=>rfl
  | some b=>obtain ⟨hi,hb⟩:=Array.getElem?_eq_some_iff.1 hq;simp at hb;simp [← hb]
 refine draw_any (w0:=w.drew) (μ0:=μ) hE hc ha r R' W (drawOk_spec hD) hok (fun μ' a' w' S A' hs' hd'=>hQ μ' a' w' (R.drew.trans R S) A' hs' hd') ops.size _ a w.drew μ ?_ ?_
 ·refine ⟨by simp,hs,rfl,(fun j o e hj=>by rw [hlf] at hj;cases hj),.refl μ,fun i m hmi=>?_,fun k hk hcut=>?_,fun t k hk h1 h2=>?_,(fun i m h h'=>by rw [h] at h';cases h'),(fun _ _ _=>rfl),rfl,rfl,rfl,Nat.le_refl _⟩
  ·have hi:=R.lt hmi
   have hn:=(r.le ha W (Nat.zero_le ops.size) (Nat.le_refl _)).n
   refine ⟨by omega,fun k hk h1 h2=>?_⟩
   have:=(r.le ha W (Nat.zero_le k) (by omega)).n
   omega
  ·have hnb:∀ b,0≤b→b < 0+k→¬ isBar ops Hs H1s b:=fun b _ hb hbar=>by
    have:=(hcut b (by omega) hbar).1 (by omega)
    rw [hlf] at this
    cases this
   obtain ⟨g1,g2⟩:=r.agree ha W hok 0 k (by omega) hnb
   rw [Nat.zero_add] at g1 g2
   have hn:=(r.le ha W (Nat.zero_le k) hk).n
   rw [cut_all (fun i m h=>by have:=R.lt h;omega)]
   exact R'.agree (r.wf ha W k hk) hn g1 g2
  ·have hn:=(r.le ha W (Nat.zero_le k) hk).n
   rw [cut_all (fun i m h=>by have:=R.lt h;omega)]
   have:=r.ts ha W 0 t k (by omega) (fun i _ hi hw=>by have:=h1 i (by omega) hw;rw [hlf] at this;cases this)
   rw [Nat.zero_add] at this
   rw [this]
   exact A.tm t
 ·exact Nat.le_trans (List.length_filter_le _ _) (by simp)
/-! ### Code -/
def okCode (nt:Nat):Code→Bool
 | .region _ ops draw=>ops.toList.all (okOp nt) && (!draw || drawOk ops)
 | .seq a b=>okCode nt a && okCode nt b
 | .cond c a b=>okO c && okCode nt a && okCode nt b
 | .block _ b=>okCode nt b
 | .loop b=>okCode nt b
 | _=>true
def Ex.exit':Ex→Exit
 | .norm=>.normal
 | .exit id=>.exit id
 | .ret=>.ret
/-- A loop that has come round. -/
def LoopW (P:Program) (c:Code) (Q:Exit→Act→World→Prop) (a:Act) (w:World):Prop :=
 ∀ (b:Frame) (k:List Item) (cs:List Frame),∃ e a' w',Q e a' w'∧Arrives P (lone (b.at a (.inLoop c::k)) cs w) b k cs e a' w'
theorem loop_unroll {P:Program} {c:Code} {Q:Exit→Act→World→Prop} {a:Act} {w:World} (h:c.wp P (Exit.then (LoopW P c Q) Q) a w):(Code.loop c).wp P Q a w∧LoopW P c Q a w:=by
 have key:∀ (b:Frame) (k:List Item) (cs:List Frame),∃ e a' w',Q e a' w'∧Arrives P (lone (b.at a (.code c::.inLoop c::k)) cs w) b k cs e a' w':=by
  intro b k cs
  obtain ⟨e,a₁,w₁,hq,harr⟩:=h b (.inLoop c::k) cs
  cases e with
  | normal =>
   obtain ⟨e₂,a₂,w₂,hq₂,harr₂⟩:=hq b k cs
   exact ⟨e₂,a₂,w₂,hq₂,.of_steps harr harr₂⟩
  | exit id=>exact ⟨_,a₁,w₁,hq,.pass (x:=.inLoop c) rfl (fun _ _=>.inl (by simp)) harr⟩
  | goto l=>exact ⟨_,a₁,w₁,hq,.pass (x:=.inLoop c) rfl (fun _ _=>.inl (by simp)) harr⟩
  | ret=>exact ⟨_,a₁,w₁,hq,.pass (x:=.inLoop c) rfl (fun _ _=>.inl (by simp)) harr⟩
  | panic ch=>exact ⟨_,a₁,w₁,hq,.pass (x:=.inLoop c) rfl (fun _ _=>.inl (by simp)) harr⟩
  | outgrown=>exact ⟨_,a₁,w₁,hq,.pass (x:=.inLoop c) rfl (fun _ _=>.inl (by simp)) harr⟩
 exact ⟨fun b k cs=>let ⟨e,a',w',q,r⟩:=key b k cs;⟨e,a',w',q,.of_steps (.one step_loop) r⟩,
  fun b k cs=>let ⟨e,a',w',q,r⟩:=key b k cs;⟨e,a',w',q,.of_steps (.one step_inLoop) r⟩⟩
theorem iter_ok {c:Code} {f:St→Option (Ex × St)} {Q:Exit→Act→World→Prop} {ex:Ex} {T':Tr Value} {H':Mem}
  (hf:∀ T H ex1 T1 H1,f (T,H)=some (ex1,T1,H1)→∀ μ w a Q',Rl base μ H w→ActR μ T a→a.tmps.size=nt →
   (∀ μ' a' w',Stp base μ H w μ' H1 w'→ActR μ' T1 a'→a'.tmps.size=nt→a'.defers=a.defers→Q' ex1.exit' a' w')→c.wp E.P Q' a w) :
  ∀ (n:Nat) (T:Tr Value) (H:Mem) (μ:Mp) (w:World) (a:Act),iter f n (T,H)=some (ex,T',H')→Rl base μ H w→ActR μ T a→a.tmps.size=nt →
   (∀ μ' a' w',Stp base μ H w μ' H' w'→ActR μ' T' a'→a'.tmps.size=nt→a'.defers=a.defers→Q ex.exit' a' w')→(Code.loop c).wp E.P Q a w∧LoopW E.P c Q a w
 | 0,T,H,μ,w,a,h,R,A,hs,hQ=>by cases h
 | n+1,T,H,μ,w,a,h,R,A,hs,hQ=>by
  unfold iter at h
  split at h
  ·rename_i s' h1
   obtain ⟨T1,H1⟩:=s'
   refine loop_unroll (hf _ _ _ _ _ h1 μ w a _ R A hs fun μ' a' w' S A' hs' hd'=>?_)
   exact (iter_ok hf n T1 H1 μ' w' a' h S.rl A' hs' fun μ'' a'' w'' S' A'' hs'' hd''=>hQ μ'' a'' w'' (S.trans R S') A'' hs'' (hd''.trans hd')).2
  ·rename_i r hne
   refine loop_unroll (hf _ _ _ _ _ h μ w a _ R A hs fun μ' a' w' S A' hs' hd'=>?_)
   cases ex with
   | norm=>exact absurd h (fun h=>hne _ h)
   | exit id=>exact hQ μ' a' w' S A' hs' hd'
   | ret=>exact hQ μ' a' w' S A' hs' hd'
theorem code_ok (hE:EnvOk E) (hm:E.P.follows .mixedOrders=true) (hc:CallC E.P base call) (ha:CallA call) (n:Nat):∀ (c:Code),okCode nt c=true→∀ (T T':Tr Value) (H H':Mem) (ex:Ex),evCode E call n c (T,H)=some (ex,T',H') →
  ∀ (μ:Mp) (w:World) (a:Act) (Q:Exit→Act→World→Prop),Rl base μ H w→ActR μ T a→a.tmps.size=nt →
   (∀ μ' a' w',Stp base μ H w μ' H' w'→ActR μ' T' a'→a'.tmps.size=nt→a'.defers=a.defers→Q ex.exit' a' w')→c.wp E.P Q a w:=by
 intro c
 induction c with
 | skip=>intro hok T T' H H' ex h μ w a Q R A hs hQ;simp only [evCode] at h;cases h;exact wp_skip (hQ μ a w (.refl R) A hs rfl)
 | region id ops draw =>
  intro hok T T' H H' ex h μ w a Q R A hs hQ
  simp only [okCode,Bool.and_eq_true] at hok
  simp only [evCode] at h
  obtain ⟨⟨T1,H1⟩,hm',hq⟩:=Option.map_eq_some_iff.1 h
  cases hq
  cases draw with
  | true =>
   rw [if_pos rfl] at hm'
   exact region_draw_ok hE hm hc ha hok.1 (by simpa using hok.2) hm' R A hs hQ
  | false =>
   rw [if_neg (by simp)] at hm'
   exact wp_region_list (wpList_ok E hE hc _ _ _ _ _ μ w a hok.1 hm' R A hs hQ)
 | seq x y ihx ihy =>
  intro hok T T' H H' ex h μ w a Q R A hs hQ
  simp only [okCode,Bool.and_eq_true] at hok
  simp only [evCode] at h
  refine wp_seq ?_
  split at h
  ·rename_i s' h1
   obtain ⟨T1,H1⟩:=s'
   exact ihx hok.1 _ _ _ _ _ h1 μ w a _ R A hs fun μ' a' w' S A' hs' hd' =>
    ihy hok.2 _ _ _ _ _ h μ' w' a' Q S.rl A' hs' fun μ'' a'' w'' S' A'' hs'' hd''=>hQ μ'' a'' w'' (S.trans R S') A'' hs'' (hd''.trans hd')
  ·rename_i r hne
   refine ihx hok.1 _ _ _ _ _ h μ w a _ R A hs fun μ' a' w' S A' hs' hd'=>?_
   cases ex with
   | norm=>exact absurd h (fun h=>hne _ h)
   | exit id=>exact hQ μ' a' w' S A' hs' hd'
   | ret=>exact hQ μ' a' w' S A' hs' hd'
 | cond c x y ihx ihy =>
  intro hok T T' H H' ex h μ w a Q R A hs hQ
  simp only [okCode,Bool.and_eq_true] at hok
  simp only [evCode] at h
  have hv:=evalO_ok A hok.1.1
  split at h
  ·rename_i he
   rw [he] at hv
   exact wp_cond_true hv.bool' (ihx hok.1.2 _ _ _ _ _ h μ w a Q R A hs hQ)
  ·rename_i he
   rw [he] at hv
   exact wp_cond_false hv.bool' (ihy hok.2 _ _ _ _ _ h μ w a Q R A hs hQ)
  ·cases h
 | block id b ih =>
  intro hok T T' H H' ex h μ w a Q R A hs hQ
  simp only [okCode] at hok
  simp only [evCode] at h
  refine wp_block ?_
  split at h
  ·rename_i i s' h1
   obtain ⟨T1,H1⟩:=s'
   refine ih hok _ _ _ _ _ h1 μ w a _ R A hs fun μ' a' w' S A' hs' hd'=>?_
   simp only [Ex.exit',Exit.inBlock]
   split at h
   ·rename_i e;rw [if_pos e];cases h;exact hQ μ' a' w' S A' hs' hd'
   ·rename_i e;rw [if_neg e];cases h;exact hQ μ' a' w' S A' hs' hd'
  ·rename_i r hne
   refine ih hok _ _ _ _ _ h μ w a _ R A hs fun μ' a' w' S A' hs' hd'=>?_
   cases ex with
   | norm=>exact hQ μ' a' w' S A' hs' hd'
   | exit id=>exact absurd h (fun h=>hne _ _ h)
   | ret=>exact hQ μ' a' w' S A' hs' hd'
 | loop b ih =>
  intro hok T T' H H' ex h μ w a Q R A hs hQ
  simp only [okCode] at hok
  simp only [evCode] at h
  exact (iter_ok (fun T H ex1 T1 H1 h1 μ w a Q'=>ih hok T T1 H H1 ex1 h1 μ w a Q') n T H μ w a h R A hs hQ).1
 | exit id=>intro hok T T' H H' ex h μ w a Q R A hs hQ;simp only [evCode] at h;cases h;exact wp_exit (hQ μ a w (.refl R) A hs rfl)
 | ret=>intro hok T T' H H' ex h μ w a Q R A hs hQ;simp only [evCode] at h;cases h;exact wp_ret (hQ μ a w (.refl R) A hs rfl)
 | rangeFunc=>intro hok T T' H H' ex h;simp [evCode] at h
 | scope=>intro hok T T' H H' ex h;simp [evCode] at h
 | label=>intro hok T T' H H' ex h;simp [evCode] at h
 | goto=>intro hok T T' H H' ex h;simp [evCode] at h
 | refuse=>intro hok T T' H H' ex h;simp [evCode] at h
/-! ### Calls -/
theorem initT_get:∀ (vs:List Value) (k:Nat) (T:Tr Value) (t:Nat),(initT k vs T).get t=if k≤t∧t < k+vs.length then vs[t - k]? else T.get t
 | [],k,T,t=>by simp only [initT,List.length_nil,Nat.add_zero];rw [if_neg (by omega)]
 | v::vs,k,T,t=>by
  simp only [initT,initT_get vs (k+1) _ t,List.length_cons]
  by_cases h1:k+1≤t∧t < k+1+vs.length
  ·rw [if_pos h1,if_pos (by omega)]
   obtain ⟨d,hd⟩:∃ d,t - k=d+1:=⟨t - k - 1,by omega⟩
   rw [hd,List.getElem?_cons_succ]
   congr 1;omega
  ·rw [if_neg h1,Tr.get_set]
   by_cases h2:k=t
   ·subst h2;rw [if_pos rfl,if_pos (by omega)];simp
   ·rw [if_neg h2,if_neg (by omega)]
theorem init_ok {μ:Mp} {args args':Array Value} {n:Nat} (h:VRa μ args args'):ActR μ (initT 0 args.toList .nil) { tmps:=args'++Array.replicate n undef,defers:=[] }:=by
 refine ⟨fun t=>?_⟩
 rw [initT_get]
 simp only [Array.getD_eq_getD_getElem?,Array.getElem?_append]
 by_cases ht:t < args.size
 ·rw [if_pos (by simpa using ht),if_pos (by rw [← h.size];exact ht)]
  have h1:args.toList[t - 0]?=some args[t]:=by simp [ht]
  have h2:args'[t]?=some (args'[t]'(by rw [← h.size];exact ht)):=Array.getElem?_eq_getElem _
  rw [h1,h2]
  exact h.at t _ _ (Array.getElem?_eq_getElem ht) h2
 ·rw [if_neg (by simpa using ht),if_neg (by rw [← h.size];exact ht)]
  have:(Array.replicate n undef)[t - args'.size]?.getD undef=undef:=by
   cases hq:(Array.replicate n undef)[t - args'.size]? with
   | none=>rfl
   | some v=>obtain ⟨hi,hb⟩:=Array.getElem?_eq_some_iff.1 hq;simp at hb;simp [← hb]
  rw [this]
  exact VR.undef _
theorem results_ok {μ:Mp} {H:Mem} {w:World} {T:Tr Value} {a:Act} {fn:Func} {v:Value} (R:Rl base μ H w) (A:ActR μ T a) (h:ressV E.P T H fn.results.toList=some v):∃ v',(results fn a.tmps).run E.P w=.ok v' w∧VR μ v v':=by
 have one:∀ (rv:ResultVar) v,resV E.P T H rv=some v→∃ v',((match rv with | .tmp t=>pure (a.tmps.getD t undef) | .cell q t=>do loadVar t (← asAddr (a.tmps.getD q undef)):Sem Value)).run E.P w=.ok v' w∧VR μ v v':=by
  intro rv v hv
  cases rv with
  | tmp t=>simp [resV] at hv;subst hv;exact ⟨_,rfl,A.tm t⟩
  | cell q t =>
   simp only [resV] at hv
   split at hv
   ·rename_i ad he
    have hq:=A.tm q
    rw [he] at hq
    obtain ⟨hs,m,hm,he'⟩:=hq.ptr_some
    obtain ⟨v',h1,h2⟩:=loadV_ok (P:=E.P) R hm hv
    refine ⟨v',?_,h2⟩
    show (asAddr (a.tmps.getD q undef) >>= fun x=>loadVar t x).run E.P w=_
    rw [he',Sem.run_bind]
    exact h1
   ·cases hv
 have many:∀ (rs:List ResultVar) vs,rs.mapM (resV E.P T H)=some vs→∃ vs',(rs.mapM (fun rv=>match rv with | .tmp t=>pure (a.tmps.getD t undef) | .cell q t=>do loadVar t (← asAddr (a.tmps.getD q undef)):ResultVar→Sem Value)).run E.P w=.ok vs' w∧VRs μ vs vs':=by
  intro rs
  induction rs with
  | nil=>intro vs h;simp at h;subst h;exact ⟨[],rfl,.nil μ⟩
  | cons r rs ih =>
   intro vs h
   rw [List.mapM_cons] at h
   cases h1:resV E.P T H r with
   | none=>simp [h1] at h
   | some v =>
    cases h2:rs.mapM (resV E.P T H) with
    | none=>simp [h1,h2] at h
    | some vs1 =>
     simp [h1,h2] at h
     subst h
     obtain ⟨v',g1,g2⟩:=one r v h1
     obtain ⟨vs',k1,k2⟩:=ih vs1 h2
     refine ⟨v'::vs',?_,.cons g2 k2⟩
     rw [List.mapM_cons,Sem.run_bind,g1,Result.andThen_ok,Sem.run_bind,k1]
     rfl
 unfold ressV at h
 have run:∀ vs',(fn.results.toList.mapM (fun rv=>match rv with | .tmp t=>pure (a.tmps.getD t undef) | .cell q t=>do loadVar t (← asAddr (a.tmps.getD q undef)):ResultVar→Sem Value)).run E.P w=.ok vs' w →
   (results fn a.tmps).run E.P w=.ok (if h:vs'.toArray.size=1 then vs'.toArray[0] else .tuple vs'.toArray) w:=by
  intro vs' h
  have e:results fn a.tmps=(do
    let vs ← fn.results.mapM (fun rv=>match rv with | .tmp t=>pure (a.tmps.getD t undef) | .cell q t=>do loadVar t (← asAddr (a.tmps.getD q undef)):ResultVar→Sem Value)
    pure (if h:vs.size=1 then vs[0] else .tuple vs)):=rfl
  rw [e,Sem.run_bind,Array.mapM_eq_mapM_toList,Sem.run_map,h]
  rfl
 split at h
 ·rename_i u hu
  cases h
  obtain ⟨vs',k1,k2⟩:=many _ _ hu
  obtain ⟨v',vs2,rfl,hv,ht⟩:=k2.of_cons
  rw [ht.of_nil] at k1
  exact ⟨v',by rw [run _ k1];simp,hv⟩
 ·rename_i vs hne hu
  cases h
  obtain ⟨vs',k1,k2⟩:=many _ _ hu
  have hl:vs'.toArray.size≠1:=fun e=>by
   have:vs.length=1:=by rw [k2.1];simpa using e
   obtain ⟨x,rfl⟩:=List.length_eq_one_iff.1 this
   exact hne x rfl
  exact ⟨_,by rw [run _ k1,dif_neg hl],.tuple' k2⟩
 ·cases h
/-- What a program must show so that the evaluator speaks of it. -/
structure Sound (E:Env) (base:Nat):Prop where
 env:EnvOk E
 mixed:E.P.follows .mixedOrders=true
 code:∀ (f:FuncId) (fn:Func) (c:Code),E.bad f=false→E.P.funcs[f]?=some fn→fn.body=some c→okCode fn.ntmps c=true
 ia:∀ f g,E.I f=some g→∀ args H v H',g args H=some (v,H')→WF H→AStp H H'
 ic:∀ f g,E.I f=some g→∀ args H v H',g args H=some (v,H')→∀ μ w args',Rl base μ H w→VRa μ args args' →
  Calls E.P f args' w (fun e w'=>∃ μ' v',e=.returned v'∧Stp base μ H w μ' H' w'∧VR μ' v v')
theorem evCall_ok (S:Sound E base):∀ n,CallC E.P base (evCall E n)
 | 0=>fun f args H v H' h=>by simp [evCall] at h
 | n+1=>fun f args H v H' h μ w args' R hargs=>by
  have ih:=evCall_ok S n
  simp only [evCall] at h
  split at h
  ·rename_i g hg
   exact S.ic f g hg _ _ _ _ h μ w args' R hargs
  ·split at h
   ·cases h
   ·rename_i hbad
    split at h
    ·cases h
    ·rename_i fn hfn
     split at h
     ·cases h
     ·rename_i c hbody
      split at h
      ·cases h
      ·rename_i hnt
       have hok:=S.code f fn c (by simpa using hbad) hfn hbody
       have hsz:(args'++Array.replicate (fn.ntmps - args'.size) undef).size=fn.ntmps:=by rw [hargs.size] at hnt;simp;omega
       split at h
       ·rename_i T1 H1 h1
        obtain ⟨v1,hv1,hq⟩:=Option.map_eq_some_iff.1 h
        cases hq
        refine calls_of_wp hfn hbody (code_ok S.env S.mixed ih (evCall_a E S.ia n) n c hok _ _ _ _ _ h1 μ w _ _ R (init_ok hargs) hsz fun μ' a' w' S' A' hs' hd'=>?_)
        obtain ⟨v',g1,g2⟩:=results_ok (E:=E) (fn:=fn) S'.rl A' hv1
        exact ⟨hd',v',g1,μ',v',rfl,S',g2⟩
       ·rename_i T1 H1 h1
        obtain ⟨v1,hv1,hq⟩:=Option.map_eq_some_iff.1 h
        cases hq
        refine calls_of_wp hfn hbody (code_ok S.env S.mixed ih (evCall_a E S.ia n) n c hok _ _ _ _ _ h1 μ w _ _ R (init_ok hargs) hsz fun μ' a' w' S' A' hs' hd'=>?_)
        obtain ⟨v',g1,g2⟩:=results_ok (E:=E) (fn:=fn) S'.rl A' hv1
        exact ⟨hd',v',g1,μ',v',rfl,S',g2⟩
       ·cases h
end
#print axioms evCall_ok
end Go.Proofs.YtmndbhgbngkakaaDoor.E
end
section
/- The evaluator: more rounds change nothing; how a law begins and ends. No condition but those that are written out. -/
namespace Go.Proofs.YtmndbhgbngkakaaDoor.E
open Go Go.RowKit
set_option linter.all false

/-! ### More rounds -/
def CallLe (c c':Call):Prop:=∀ f a H r,c f a H=some r→c' f a H=some r
section
variable {E:Env} {c c':Call} {ops:Array Oper}
theorem stepOne_mono (h:CallLe c c') {o:Oper} {T:Tr Value} {H:Mem} {r:Tr Value × Mem} (hs:stepOne E c ops o T H=some r):stepOne E c' ops o T H=some r:=by
 unfold stepOne at hs ⊢
 by_cases hw:Region.wanted o (yieldT ops T)=true
 ·rw [if_pos hw] at hs ⊢
  cases h1:opStep E T H o with
  | none=>rw [h1] at hs;cases hs
  | some p =>
   obtain ⟨re,H1⟩:=p
   rw [h1] at hs
   cases re with
   | val v=>exact hs
   | skip=>exact hs
   | enter f args =>
    simp only at hs ⊢
    cases h2:c f args H1 with
    | none=>rw [h2] at hs;cases hs
    | some q=>rw [h2] at hs;rw [h _ _ _ _ h2];exact hs
 ·rw [if_neg hw] at hs ⊢
  exact hs
theorem evList_mono (h:CallLe c c'):∀ (l:List Oper) (T:Tr Value) (H:Mem) (r:Tr Value × Mem),evList E c ops l T H=some r→evList E c' ops l T H=some r
 | [],T,H,r,hs=>hs
 | o::l,T,H,r,hs=>by
  unfold evList at hs ⊢
  split at hs
  ·rename_i T1 H1 h1;simp only [stepOne_mono h h1];exact evList_mono h l _ _ _ hs
  ·cases hs
theorem evDraw_mono (h:CallLe c c'):∀ (l:List Oper) (k:Nat) (T:Tr Value) (H:Mem) (r:Tr Value × Mem),evDraw E c ops l k T H=some r→evDraw E c' ops l k T H=some r
 | [],k,T,H,r,hs=>hs
 | o::l,k,T,H,r,hs=>by
  unfold evDraw at hs ⊢
  split at hs
  ·rename_i T1 H1 h1
   simp only [stepOne_mono h h1]
   split at hs
   ·rename_i hq;rw [if_pos hq];exact evDraw_mono h l _ _ _ _ hs
   ·cases hs
  ·cases hs
theorem iter_mono {f f':St→Option (Ex × St)} (h:∀ s r,f s=some r→f' s=some r):∀ (n n':Nat) (s:St) (r:Ex × St),n≤n'→iter f n s=some r→iter f' n' s=some r
 | 0,_,_,_,_,hs=>by cases hs
 | n+1,0,_,_,hn,_=>by omega
 | n+1,n'+1,s,r,hn,hs=>by
  unfold iter at hs ⊢
  split at hs
  ·rename_i s' h1;simp only [h _ _ h1];exact iter_mono h n n' _ _ (by omega) hs
  ·rename_i q hne
   cases hf:f s with
   | none=>rw [hf] at hs;cases hs
   | some p =>
    rw [hf] at hs
    cases hs
    simp only [h _ _ hf]
    obtain ⟨ex,s'⟩:=r
    cases ex with
    | norm=>exact absurd hf (hne s')
    | exit id=>rfl
    | ret=>rfl
theorem evCode_mono (h:CallLe c c') {n n':Nat} (hn:n≤n'):∀ (cd:Code) (s:St) (r:Ex × St),evCode E c n cd s=some r→evCode E c' n' cd s=some r:=by
 intro cd
 induction cd with
 | skip=>intro s r hs;exact hs
 | region id ops draw =>
  intro s r hs
  simp only [evCode] at hs ⊢
  obtain ⟨p,hp,hq⟩:=Option.map_eq_some_iff.1 hs
  refine Option.map_eq_some_iff.2 ⟨p,?_,hq⟩
  split at hp
  ·rename_i hd;rw [if_pos hd];exact evDraw_mono h _ _ _ _ _ hp
  ·rename_i hd;rw [if_neg hd];exact evList_mono h _ _ _ _ hp
 | seq x y ihx ihy =>
  intro s r hs
  simp only [evCode] at hs ⊢
  split at hs
  ·rename_i s' h1;simp only [ihx _ _ h1];exact ihy _ _ hs
  ·rename_i hne
   have:=ihx _ _ hs
   simp only [this]
   obtain ⟨ex,s'⟩:=r
   cases ex with
   | norm=>exact absurd hs (hne s')
   | exit id=>rfl
   | ret=>rfl
 | cond q x y ihx ihy =>
  intro s r hs
  simp only [evCode] at hs ⊢
  split at hs
  ·exact ihx _ _ hs
  ·exact ihy _ _ hs
  ·cases hs
 | block id b ih =>
  intro s r hs
  simp only [evCode] at hs ⊢
  split at hs
  ·rename_i i s' h1;simp only [ih _ _ h1];exact hs
  ·rename_i hne
   have:=ih _ _ hs
   simp only [this]
   obtain ⟨ex,s'⟩:=r
   cases ex with
   | norm=>rfl
   | exit id=>exact absurd hs (hne _ s')
   | ret=>rfl
 | loop b ih=>intro s r hs;simp only [evCode] at hs ⊢;exact iter_mono ih n n' _ _ hn hs
 | exit id=>intro s r hs;exact hs
 | ret=>intro s r hs;exact hs
 | rangeFunc=>intro s r hs;simp [evCode] at hs
 | scope=>intro s r hs;simp [evCode] at hs
 | label=>intro s r hs;simp [evCode] at hs
 | goto=>intro s r hs;simp [evCode] at hs
 | refuse=>intro s r hs;simp [evCode] at hs
theorem evCall_mono (E:Env):∀ (n n':Nat),n≤n'→CallLe (evCall E n) (evCall E n')
 | 0,_,_=>fun f a H r h=>by simp [evCall] at h
 | n+1,0,hn=>by omega
 | n+1,n'+1,hn=>fun f a H r h=>by
  have ih:=evCall_mono E n n' (by omega)
  simp only [evCall] at h ⊢
  split at h
  ·exact h
  ·split at h
   ·cases h
   ·rename_i hb
    rw [if_neg hb]
    split at h
    ·cases h
    ·split at h
     ·cases h
     ·split at h
      ·cases h
      ·rename_i hnt
       rw [if_neg hnt]
       split at h
       ·rename_i h1;simp only [evCode_mono ih (show n≤n' by omega) _ _ _ h1];exact h
       ·rename_i h1;simp only [evCode_mono ih (show n≤n' by omega) _ _ _ h1];exact h
       ·cases h
end
/-! ### How a law begins -/
def M0:Mem:=⟨0,.nil,.nil,0⟩
theorem WF.m0:WF M0:=⟨fun i o h=>by simp [M0,Tr.get] at h,fun i b h=>by simp [M0,Tr.get] at h,fun f _=>rfl⟩
theorem Rl.m0 (w:World):Rl w.heap.size (fun _=>none) M0 w:=⟨WF.m0,Nat.le_refl _,(fun i m h=>by cases h),(fun i m b h=>by cases h),(fun i m es c h=>by cases h),(fun i j mi mj h=>by cases h)⟩
/-- A row that is only read. -/
def Mem.arg (H:Mem) (cs:List Value) (e:Nat):Mem:={ H with n:=H.n+1,obs:=H.obs.set H.n (.blk ⟨cs,e,H.n,0,true⟩) }
theorem Rl.arg {μ:Mp} {H:Mem} {w:World} (R:Rl w.heap.size μ H w) {cs cs':List Value} {A:Addr} {cap e:Nat} (hA:A.block < w.heap.size) (hs:A.spot=none) (hl:cs.length≤cap*e) (hv:VRs μ cs cs')
  (hc:∀ (j:Nat) v,cs'[j]?=some v→w.cell? (A.add j)=some v) (hap:∀ i m,μ i=some m→owner H i=none) :
  Rl w.heap.size (upd μ H.n ⟨A,A.off+cap*e,e⟩) (H.arg cs e) w∧(∀ i m,upd μ H.n ⟨A,A.off+cap*e,e⟩ i=some m→owner (H.arg cs e) i=none)∧Ext μ (upd μ H.n ⟨A,A.off+cap*e,e⟩):=by
 have hx:=R.ext_upd ⟨A,A.off+cap*e,e⟩
 have hget:∀ i,(H.arg cs e).obs.get i=if H.n=i then some (.blk ⟨cs,e,H.n,0,true⟩) else H.obs.get i:=fun i=>Tr.get_set _ _ _ _
 have how:∀ i m,upd μ H.n ⟨A,A.off+cap*e,e⟩ i=some m→owner (H.arg cs e) i=none:=fun i m h=>by
  by_cases hi:i=H.n
  ·subst hi
   have:=hget H.n
   rw [if_pos rfl] at this
   rw [owner_blk this];rfl
  ·rw [upd_ne μ _ hi] at h
   have:=hget i
   rw [if_neg (Ne.symm hi)] at this
   rw [owner_of this]
   exact hap i m h
 refine ⟨⟨⟨fun i o h=>?_,fun i b h hr=>?_,fun f h=>R.wf.gen f (Nat.le_of_succ_le h)⟩,Nat.le_refl _,fun i m h=>?_,fun i m b h ho=>?_,fun i m es c h ho=>?_,fun i j mi mj hi hj _=>by rw [how i mi hi,how j mj hj]⟩,how,hx⟩
 ·rw [hget] at h
  show i < H.n+1
  split at h
  ·omega
  ·have:=R.wf.lt i o h;omega
 ·rw [hget] at h
  split at h
  ·cases h;simp at hr
  ·obtain ⟨x1,x2,x3,x4⟩:=R.wf.fam i b h hr
   refine ⟨x1,x2,x3,fun he=>?_⟩
   obtain ⟨b',hb',y⟩:=x4 he
   exact ⟨b',by rw [hget,if_neg (by have:=R.wf.lt _ _ hb';omega)];exact hb',y⟩
 ·by_cases hi:i=H.n
  ·subst hi;exact ⟨_,(hget _).trans (if_pos rfl)⟩
  ·rw [upd_ne μ _ hi] at h
   obtain ⟨o,ho⟩:=R.has i m h
   exact ⟨o,by rw [hget,if_neg (Ne.symm hi)];exact ho⟩
 ·by_cases hi:i=H.n
  ·subst hi
   rw [upd_same] at h;cases h
   rw [hget,if_pos rfl] at ho;cases ho
   refine ⟨hs,rfl,by simp;omega,fun _=>by simp [hA],fun h=>by simp at h,fun _ j v hj=>?_⟩
   have hjl:j < cs'.length:=by rw [← hv.1];exact (List.getElem?_eq_some_iff.1 hj).1
   refine ⟨cs'[j],?_,(hv.2 j v _ hj (List.getElem?_eq_getElem hjl)).mono hx⟩
   have:=hc j _ (List.getElem?_eq_getElem hjl)
   obtain ⟨b,o,s⟩:=A
   simp at hs
   subst hs
   rw [Addr.add_lit] at this
   exact this
  ·rw [upd_ne μ _ hi] at h
   rw [hget,if_neg (Ne.symm hi)] at ho
   exact (R.row i m b h ho).keep hx (fun x=>x) rfl
 ·by_cases hi:i=H.n
  ·subst hi;rw [hget,if_pos rfl] at ho;cases ho
  ·rw [upd_ne μ _ hi] at h
   rw [hget,if_neg (Ne.symm hi)] at ho
   exact (R.map i m es c h ho).keep hx rfl
/-- What is shown of a law is what its row asks for. -/
theorem law_calls {E:Env} (S:∀ base,Sound E base) {W:World} {n:Nat} {f:FuncId} {args args':Array Value} {μ:Mp} {H H':Mem} {v:Value} (h:evCall E n f args H=some (v,H')) (hf:flat depth v=true)
  (R:Rl W.heap.size μ H W) (hap:∀ i m,μ i=some m→owner H i=none) (ha:VRa μ args args'):Calls E.P f args' W (fun e w'=>e=.returned v∧Below W.heap.size W w'):=by
 refine (evCall_ok (S W.heap.size) n f args H v H' h μ W args' R ha).mono fun e w'=>?_
 rintro ⟨μ',v',rfl,K,hv⟩
 exact ⟨by rw [flat_eq depth hf hv],⟨K.os,K.tape,K.out,K.size,fun B hB=>K.foot B hB fun i m hm _ f hf=>by rw [hap i m hm] at hf;cases hf⟩⟩
/-- The looks at a program that the evaluator wants, in one. -/
def progOk (P:Program) (bad:FuncId→Bool):Bool :=
 P.funcs.toList.zipIdx.all fun p => (match p.1.body with | some c => (bad p.2 || okCode p.1.ntmps c) && !(p.1.name == "runtime.NumGoroutine") | none => true)
theorem progOk_spec {P:Program} {bad:FuncId→Bool} (h:progOk P bad=true):(∀ (f:FuncId) (fn:Func) (c:Code),bad f=false→P.funcs[f]?=some fn→fn.body=some c→okCode fn.ntmps c=true) ∧
  ∀ (f : FuncId) (fn : Func), P.funcs[f]? = some fn → fn.body.isSome = true → (fn.name == "runtime.NumGoroutine") = false := by
 unfold progOk at h
 rw [List.all_eq_true] at h
 have get : ∀ (f : FuncId) (fn : Func) (c : Code), P.funcs[f]? = some fn → fn.body = some c → (bad f || okCode fn.ntmps c) && !(fn.name == "runtime.NumGoroutine") := fun f fn c hf hb => by
  have hz:(fn,f)∈P.funcs.toList.zipIdx:=by
   rw [List.mem_zipIdx_iff_getElem?]
   simpa using hf
  have:=h _ hz
  simpa [hb] using this
 refine ⟨fun f fn c hb hf hc=>?_,fun f fn hf hs=>?_⟩
 ·have:=get f fn c hf hc
  simp only [Bool.and_eq_true,hb,Bool.false_or] at this
  exact this.1
 ·obtain ⟨c,hc⟩:=Option.isSome_iff_exists.1 hs
  have:=get f fn c hf hc
  simp only [Bool.and_eq_true] at this
  simpa using this.2
end Go.Proofs.YtmndbhgbngkakaaDoor.E
end
section
/- The evaluator: functions that have been shown stand for what they yield. No condition but those that are written out. -/
namespace Go.Proofs.YtmndbhgbngkakaaDoor.E
open Go Go.RowKit
set_option linter.all false

abbrev Intr:=Array Value→Mem→Option (Value × Mem)
structure IntrOk (P:Program) (f:FuncId) (g:Intr):Prop where
 a:∀ args H v H',g args H=some (v,H')→WF H→AStp H H'
 c:∀ base args H v H',g args H=some (v,H')→∀ μ w args',Rl base μ H w→VRa μ args args' →
  Calls P f args' w (fun e w'=>∃ μ' v',e=.returned v'∧Stp base μ H w μ' H' w'∧VR μ' v v')
def lookI:List (FuncId × Intr)→FuncId→Option Intr
 | [],_=>none
 | (f',g)::L,f=>if f'=f then some g else lookI L f
theorem lookI_mem:∀ (L:List (FuncId × Intr)) {f:FuncId} {g:Intr},lookI L f=some g→(f,g)∈L
 | [],_,_,h=>by cases h
 | (f',g')::L,f,g,h=>by
  unfold lookI at h
  split at h
  ·rename_i e;subst e;cases h;exact .head _
  ·exact .tail _ (lookI_mem L h)
/-- A program, its rows without a body, and what is left out. -/
structure Base where
 P:Program
 X:FuncId→Option (Array Value→Option Value)
 bad:FuncId→Bool
def Base.env (B:Base) (L:List (FuncId × Intr)):Env:={ P:=B.P,X:=B.X,I:=lookI L,bad:=B.bad }
structure Base.Ok (B:Base):Prop where
 x:∀ f g args v,B.X f=some g→g args=some v→args.toList.all (flat depth)=true→∀ w,(callFunc f args).run B.P w=.ok (.value v) w∧flat depth v=true
 mixed:B.P.follows .mixedOrders=true
 code:progOk B.P B.bad=true
def AllOk (P:Program) (L:List (FuncId × Intr)):Prop:=∀ f g,(f,g)∈L→IntrOk P f g
theorem AllOk.nil (P:Program):AllOk P []:=fun f g h=>by cases h
theorem AllOk.cons {P:Program} {f:FuncId} {g:Intr} {L:List (FuncId × Intr)} (h:IntrOk P f g) (t:AllOk P L):AllOk P ((f,g)::L):=fun f' g' hm=>by
 cases hm with
 | head=>exact h
 | tail _ hm=>exact t f' g' hm
theorem Base.sound {B:Base} (h:B.Ok) {L:List (FuncId × Intr)} (hL:AllOk B.P L) (base:Nat):Sound (B.env L) base :=
 ⟨⟨h.x,(progOk_spec h.code).2⟩,h.mixed,(progOk_spec h.code).1,fun f g hg=>(hL f g (lookI_mem L hg)).a,fun f g hg=>(hL f g (lookI_mem L hg)).c base⟩
theorem Stp.of_below {base:Nat} {μ:Mp} {H:Mem} {w w':World} (R:Rl base μ H w) (b:Below w.heap.size w w'):Stp base μ H w μ H w' :=
 ⟨R.world b.size b.block,.refl μ,(fun i m h h'=>by rw [h] at h';cases h'),Nat.le_refl _,(fun _ _=>rfl),(fun _ _ _=>rfl),(fun _ _ _=>rfl),Nat.le_refl _,fun B hB _=>b.block B hB,b.os,b.tape,b.output,b.size⟩
/-- A function of numbers and texts, to numbers and texts. -/
def flatI (dom:List Value→Option Value):Intr:=fun args H =>
 if args.toList.all (flat depth) then
  match dom args.toList with
  | some v=>if flat depth v then some (v,H) else none
  | none=>none
 else none
theorem flatI_ok {B:Base} (hB:B.Ok) {L:List (FuncId × Intr)} (hL:AllOk B.P L) {f:FuncId} {dom:List Value→Option Value} (h:∀ args v,dom args=some v→∃ n H1,evCall (B.env L) n f args.toArray M0=some (v,H1)):IntrOk B.P f (flatI dom):=by
 refine ⟨fun args H v H' hg _=>?_,fun base args H v H' hg μ w args' R ha=>?_⟩
 ·unfold flatI at hg
  split at hg
  ·split at hg
   ·split at hg
    ·cases hg;exact .refl _
    ·cases hg
   ·cases hg
  ·cases hg
 ·unfold flatI at hg
  split at hg
  ·rename_i hf
   split at hg
   ·rename_i v' hd
    split at hg
    ·rename_i hv
     cases hg
     have he:args'=args:=Array.ext' (flats_eq ha hf)
     subst he
     obtain ⟨n,H1,hn⟩:=h _ _ hd
     rw [Array.toArray_toList] at hn
     have:=law_calls (E:=B.env L) (fun base=>B.sound hB hL base) hn hv (Rl.m0 w) (fun i m h=>by cases h) (args':=args') ⟨rfl,fun i x y a b=>by
      rw [a] at b;cases b
      exact VR.of_flat _ depth (List.all_eq_true.1 hf x (List.mem_of_getElem? a))⟩
     refine this.mono fun e w'=>?_
     rintro ⟨rfl,hb⟩
     exact ⟨μ,v,rfl,.of_below R hb,VR.of_flat μ depth hv⟩
    ·cases hg
   ·cases hg
  ·cases hg
/-- The same, of a contract that is there already. -/
theorem flatC_ok {P:Program} {f:FuncId} {dom:List Value→Option Value} (h:∀ args v,dom args=some v→∀ w,Calls P f args.toArray w (fun e w'=>e=.returned v∧Below w.heap.size w w')):IntrOk P f (flatI dom):=by
 refine ⟨fun args H v H' hg _=>?_,fun base args H v H' hg μ w args' R ha=>?_⟩
 ·unfold flatI at hg
  split at hg
  ·split at hg
   ·split at hg
    ·cases hg;exact .refl _
    ·cases hg
   ·cases hg
  ·cases hg
 ·unfold flatI at hg
  split at hg
  ·rename_i hf
   split at hg
   ·rename_i v' hd
    split at hg
    ·rename_i hv
     cases hg
     have he:args'=args:=Array.ext' (flats_eq ha hf)
     subst he
     have:=h _ _ hd w
     rw [Array.toArray_toList] at this
     refine this.mono fun e w'=>?_
     rintro ⟨rfl,hb⟩
     exact ⟨μ,v,rfl,.of_below R hb,VR.of_flat μ depth hv⟩
    ·cases hg
   ·cases hg
  ·cases hg
end Go.Proofs.YtmndbhgbngkakaaDoor.E
end
section
/- The evaluator: what its parts yield, one by one. No condition but those that are written out. -/
namespace Go.Proofs.YtmndbhgbngkakaaDoor.E
open Go Go.RowKit
set_option linter.all false

theorem evCall_eq (E:Env) (n:Nat) (f:FuncId) (args:Array Value) (H:Mem):evCall E (n+1) f args H =
  match E.I f with
  | some g=>g args H
  | none =>
   if E.bad f then none else
   match E.P.funcs[f]? with
   | none=>none
   | some fn =>
    match fn.body with
    | none=>none
    | some c =>
     if fn.ntmps < args.size then none else
     match evCode E (evCall E n) n c (initT 0 args.toList .nil,H) with
     | some (.norm,T,H') | some (.ret,T,H')=>(ressV E.P T H' fn.results.toList).map fun v=>(v,H')
     | _=>none:=by
 rw [evCall]
 rfl
@[simp] theorem ro_zo:(RO=ZO)=False:=by simp [RO,ZO]
@[simp] theorem zo_ro:(ZO=RO)=False:=by simp [RO,ZO]
@[simp] theorem ro_op:(RO=OPEN)=False:=by simp [RO,OPEN]
@[simp] theorem op_ro:(OPEN=RO)=False:=by simp [RO,OPEN]
@[simp] theorem zo_op:(ZO=OPEN)=False:=by simp [ZO,OPEN]
@[simp] theorem op_zo:(OPEN=ZO)=False:=by simp [ZO,OPEN]
@[simp] theorem range1:List.range 1=[0]:=rfl
@[simp] theorem range2:List.range 2=[0,1]:=rfl
@[simp] theorem range3:List.range 3=[0,1,2]:=rfl
@[simp] theorem range4:List.range 4=[0,1,2,3]:=rfl
@[simp] theorem range5:List.range 5=[0,1,2,3,4]:=rfl
@[simp] theorem range6:List.range 6=[0,1,2,3,4,5]:=rfl
@[simp] theorem range7:List.range 7=[0,1,2,3,4,5,6]:=rfl
@[simp] theorem range8:List.range 8=[0,1,2,3,4,5,6,7]:=rfl
@[simp] theorem range9:List.range 9=[0,1,2,3,4,5,6,7,8]:=rfl
@[simp] theorem range10:List.range 10=[0,1,2,3,4,5,6,7,8,9]:=rfl
@[simp] theorem range11:List.range 11=[0,1,2,3,4,5,6,7,8,9,10]:=rfl
@[simp] theorem range12:List.range 12=[0,1,2,3,4,5,6,7,8,9,10,11]:=rfl
@[simp] theorem wrap_in {n:Int} (h : -9223372036854775808≤n) (h':n≤9223372036854775807):IntKind.i64.wrap n=n:=IntWalk.i64_in n ⟨h,h'⟩
theorem iter_succ {S:Type} (f:S→Option (Ex × S)) (n:Nat) (s:S):iter f (n+1) s=match f s with | some (.norm,s')=>iter f n s' | r=>r:=rfl
section
variable {P:Program} {t:TypeId} {x y:Operand} {k:IntKind} {a b:Int}
theorem bin_pure {op:BinOp} {u v:Value} {r:Value} (hu:flat depth u=true) (hv:flat depth v=true) (h:pureRun P (do eqGuard op t x y u v;binOp op t u v)=some r) (hr:flat depth r=true):binV P op t x y u v=some r:=by
 unfold binV pureV;simp [hu,hv,h,hr]
@[simp] theorem bin_lss:binV P .lss t x y (.int k a) (.int k b)=some (.bool (decide (a < b))):=bin_pure rfl rfl (by cases k<;>rfl) rfl
@[simp] theorem bin_gtr:binV P .gtr t x y (.int k a) (.int k b)=some (.bool (decide (b < a))):=bin_pure rfl rfl (by cases k<;>rfl) rfl
@[simp] theorem bin_leq:binV P .leq t x y (.int k a) (.int k b)=some (.bool (decide (a≤b))):=bin_pure rfl rfl (by cases k<;>rfl) rfl
@[simp] theorem bin_geq:binV P .geq t x y (.int k a) (.int k b)=some (.bool (decide (b≤a))):=bin_pure rfl rfl (by cases k<;>rfl) rfl
@[simp] theorem bin_eql:binV P .eql t x y (.int k a) (.int k b)=some (.bool (decide (a=b))):=bin_pure rfl rfl (by cases k<;>rfl) rfl
@[simp] theorem bin_neq:binV P .neq t x y (.int k a) (.int k b)=some (.bool (!decide (a=b))):=bin_pure rfl rfl (by cases k<;>rfl) rfl
@[simp] theorem bin_add:binV P .add t x y (.int k a) (.int k b)=some (.int k (k.wrap (a+b))):=bin_pure rfl rfl (by cases k<;>rfl) rfl
@[simp] theorem bin_sub:binV P .sub t x y (.int k a) (.int k b)=some (.int k (k.wrap (a - b))):=bin_pure rfl rfl (by cases k<;>rfl) rfl
@[simp] theorem bin_mul:binV P .mul t x y (.int k a) (.int k b)=some (.int k (k.wrap (a*b))):=bin_pure rfl rfl (by cases k<;>rfl) rfl
theorem pureRun_bind {α β:Type} (s:Sem α) (f:α→Sem β):pureRun P (s >>= f)=(pureRun P s).bind fun a=>pureRun P (f a):=by
 show pureRun P (s.bind f)=_
 induction s with
 | pure a=>rfl
 | program k ih=>simp only [Sem.bind,pureRun,ih]
 | mark m k ih=>simp only [Sem.bind,pureRun,ih]
 | _=>rfl
theorem pureRun_underlying {d:TypeDesc} (h:P.underlying t=some d):pureRun P (underlying t)=some d:=by
 unfold underlying
 rw [pureRun_bind]
 show (pureRun P (match P.underlying t with | some d => pure d | none => stuck "no such type")) = _
 rw [h];rfl
theorem bin_eqb {p q:Bool} (h:P.underlying t=some .bool):binV P .eql t x y (.bool p) (.bool q)=some (.bool (p == q)):=by
 refine bin_pure rfl rfl ?_ rfl
 have e:pureRun P (do eqGuard .eql t x y (.bool p) (.bool q);binOp .eql t (.bool p) (.bool q))=pureRun P (Op.equal t (.bool p) (.bool q) >>= fun r=>pure (.bool r)):=rfl
 obtain ⟨d,hd⟩:∃ d,Op.equal t (.bool p) (.bool q)=Op.equalIn (d+1) t (.bool p) (.bool q):=⟨9999,rfl⟩
 rw [e,pureRun_bind,hd]
 unfold Op.equalIn
 rw [pureRun_bind,pureRun_underlying h]
 rfl
theorem bytes_eq (p q:ByteArray):(p.toList == q.toList)=decide (p=q):=by
 rw [Bool.eq_iff_iff]
 simp only [beq_iff_eq,decide_eq_true_eq]
 refine ⟨fun h=>?_,fun h=>by rw [h]⟩
 rw [Lib.toList_data,Lib.toList_data] at h
 cases p;cases q
 simp only [ByteArray.mk.injEq]
 exact Array.ext' h
@[simp] theorem bin_eqs {p q:ByteArray}:binV P .eql t x y (.string p) (.string q)=some (.bool (decide (p=q))):=by rw [← bytes_eq];exact bin_pure rfl rfl rfl rfl
@[simp] theorem bin_nes {p q:ByteArray}:binV P .neq t x y (.string p) (.string q)=some (.bool (!decide (p=q))):=by rw [← bytes_eq];exact bin_pure rfl rfl rfl rfl
@[simp] theorem bin_lts {p q:ByteArray}:binV P .lss t x y (.string p) (.string q)=some (.bool (Op.bytesLess p.toList q.toList)):=bin_pure rfl rfl rfl rfl
@[simp] theorem bin_gts {p q:ByteArray}:binV P .gtr t x y (.string p) (.string q)=some (.bool (!(Op.bytesLess p.toList q.toList || p.toList == q.toList))):=bin_pure rfl rfl rfl rfl
end
end Go.Proofs.YtmndbhgbngkakaaDoor.E
end
section
/- The evaluator: functions of rows that are only read, to new rows. No condition but those that are written out. -/
namespace Go.Proofs.YtmndbhgbngkakaaDoor.E
open Go Go.RowKit
set_option linter.all false

/-- A cell, with what is behind it: a flat value, or the cells of a slice of elements of e cells each. -/
inductive FC where
 | v (x:Value)
 | row (cs:List Value) (e:Nat)
/-- The shape of an argument or a result: one flat value, a slice, or an aggregate of such. -/
inductive Sh where
 | v
 | row (e:Nat)
 | agg (cs:List (Option Nat))
/-- Whose rows: anybody's, new ones, or such as are only read. -/
inductive Md where
 | any
 | own
 | ro
def Md.ok:Md→Bool→Bool
 | .any,_=>true
 | .own,b=>!b
 | .ro,b=>b
def frzC (md:Md) (H:Mem):Option Nat→Value→Option FC
 | none,x=>if flat depth x then some (.v x) else none
 | some e,x =>
  match x with
  | .slice none 0 _=>if 0 < e then some (.row [] e) else none
  | .slice (some a) len cap =>
   if 0 < e∧(cap=OPEN∨cap=RO∨len≤cap) then
    if len=0 then some (.row [] e) else
    match H.live a.block,rd H a.block a.off (len*e) with
    | some b,some cs=>if cs.all (flat depth) && md.ok b.ro then some (.row cs e) else none
    | _,_=>none
   else none
  | _=>none
def frzL (md:Md) (H:Mem):List (Option Nat)→List Value→Option (List FC)
 | [],[]=>some []
 | o::os,x::xs =>
  match frzC md H o x,frzL md H os xs with
  | some c,some cs=>some (c::cs)
  | _,_=>none
 | _,_=>none
def frz (md:Md) (H:Mem):Sh→Value→Option (List FC)
 | .v,x=>frzL md H [none] [x]
 | .row e,x=>frzL md H [some e] [x]
 | .agg os,.agg cs=>frzL md H os cs.toList
 | .agg _,_=>none
/-! ### More rows that are only read -/
theorem arg_get (H:Mem) (cs:List Value) (e i:Nat):(H.arg cs e).obs.get i=if H.n=i then some (.blk ⟨cs,e,H.n,0,true⟩) else H.obs.get i:=Tr.get_set _ _ _ _
theorem WF.arg {H:Mem} (W:WF H) (cs:List Value) (e:Nat):WF (H.arg cs e):=by
 refine ⟨fun i o h=>?_,fun i b h hr=>?_,fun f h=>W.gen f (Nat.le_of_succ_le h)⟩
 ·rw [arg_get] at h
  show i < H.n+1
  split at h
  ·omega
  ·have:=W.lt i o h;omega
 ·rw [arg_get] at h
  split at h
  ·cases h;simp at hr
  ·obtain ⟨x1,x2,x3,x4⟩:=W.fam i b h hr
   refine ⟨x1,x2,x3,fun he=>?_⟩
   obtain ⟨b',hb',y⟩:=x4 he
   exact ⟨b',by rw [arg_get,if_neg (by have:=W.lt _ _ hb';omega)];exact hb',y⟩
/-- More rows, and nothing else. -/
structure Adds (H H':Mem):Prop where
 n:H.n≤H'.n
 obs:∀ i,i < H.n→H'.obs.get i=H.obs.get i
 gens:H'.gens=H.gens
 low:H'.low=H.low
 wf:WF H→WF H'
theorem Adds.refl (H:Mem):Adds H H:=⟨Nat.le_refl _,fun _ _=>rfl,rfl,rfl,id⟩
theorem Adds.trans {a b c:Mem} (h:Adds a b) (k:Adds b c):Adds a c :=
 ⟨Nat.le_trans h.n k.n,fun i hi=>(k.obs i (Nat.lt_of_lt_of_le hi h.n)).trans (h.obs i hi),k.gens.trans h.gens,k.low.trans h.low,fun W=>k.wf (h.wf W)⟩
theorem Adds.arg (H:Mem) (cs:List Value) (e:Nat):Adds H (H.arg cs e):=⟨Nat.le_succ _,fun i hi=>by rw [arg_get,if_neg (by omega)],rfl,rfl,fun W=>W.arg cs e⟩
section
variable {base:Nat} {μ:Mp} {H:Mem} {w:World}
end
/-- What holds of the memory in which rows are laid: 'G' = the blocks that may be laid. -/
structure Lays (G:Nat→Prop) (base:Nat) (μ0:Mp) (n0:Nat) (μ:Mp) (H:Mem) (w:World):Prop where
 rl:Rl base μ H w
 up:∀ i m,μ i=some m→G m.at_.block→owner H i=none
 new:∀ i m,μ i=some m→μ0 i=none→n0≤i∧G m.at_.block
 n:n0≤H.n
/-- The blocks of the rows of this kind may be laid. -/
def May (md:Md) (μ1:Mp) (H1:Mem) (G:Nat→Prop):Prop:=∀ j b m,H1.live j=some b→μ1 j=some m→md.ok b.ro=true→G m.at_.block
end Go.Proofs.YtmndbhgbngkakaaDoor.E
end
section
/- The evaluator: what code comes to, for all rounds from some on. No condition but those that are written out. -/
namespace Go.Proofs.YtmndbhgbngkakaaDoor.E
open Go Go.RowKit
set_option linter.all false

def hd:Code→Code
 | .seq a _=>a
 | c=>c
def tl:Code→Code
 | .seq _ b=>b
 | c=>c
/-- What code comes to. -/
def Does (E:Env) (c:Code) (s:St) (r:Ex × St):Prop:=∃ N,∀ n,N≤n→evCode E (evCall E n) n c s=some r
/-- What a call comes to. -/
def Gives (E:Env) (f:FuncId) (args:Array Value) (H:Mem) (v:Value) (H':Mem):Prop:=∃ N,∀ n,N≤n→evCall E n f args H=some (v,H')
section
variable {E:Env} {c a b:Code} {s s1:St} {r:Ex × St}
theorem Does.now (k:Nat) (h:∀ n,evCode E (evCall E (n+k)) (n+k) c s=some r):Does E c s r :=
 ⟨k,fun n hn=>by obtain ⟨m,rfl⟩:=Nat.exists_eq_add_of_le hn;rw [Nat.add_comm];exact h m⟩
theorem Does.seq (h:Does E a s (.norm,s1)) (k:Does E b s1 r):Does E (.seq a b) s r:=by
 obtain ⟨N,h⟩:=h
 obtain ⟨N',k⟩:=k
 exact ⟨max N N',fun n hn=>by simp only [evCode,h n (by omega),k n (by omega)]⟩
theorem Does.seqX {ex:Ex} (h:Does E a s (ex,s1)) (hx:ex≠.norm):Does E (.seq a b) s (ex,s1):=by
 obtain ⟨N,h⟩:=h
 refine ⟨N,fun n hn=>?_⟩
 simp only [evCode,h n hn]
 cases ex with
 | norm=>exact absurd rfl hx
 | _=>rfl
theorem Does.ite {o:Operand} {t:Bool} (ho:evalO s.1 o=.bool t) (h:Does E (if t then a else b) s r):Does E (.cond o a b) s r:=by
 obtain ⟨N,h⟩:=h
 refine ⟨N,fun n hn=>?_⟩
 simp only [evCode,ho]
 cases t with
 | true=>exact h n hn
 | false=>exact h n hn
theorem Does.block {id:Nat} {ex:Ex} (h:Does E c s (ex,s1)):Does E (.block id c) s (match ex with | .exit i=>if i=id then .norm else .exit i | e=>e,s1):=by
 obtain ⟨N,h⟩:=h
 refine ⟨N,fun n hn=>?_⟩
 simp only [evCode,h n hn]
 cases ex with
 | exit i=>by_cases hi:i=id<;>simp [hi]
 | _=>rfl
theorem Does.loop (h:Does E c s (.norm,s1)) (k:Does E (.loop c) s1 r):Does E (.loop c) s r:=by
 obtain ⟨N,h⟩:=h
 obtain ⟨N',k⟩:=k
 refine ⟨max N N'+1,fun n hn=>?_⟩
 obtain ⟨m,rfl⟩:∃ m,n=m+1:=⟨n - 1,by omega⟩
 have k1:=k (m+1) (by omega)
 have k0:=k m (by omega)
 have h1:=h (m+1) (by omega)
 simp only [evCode] at k0 k1 ⊢
 rw [iter_succ,h1]
 simp only
 refine iter_mono (fun s r hs=>evCode_mono (evCall_mono E m (m+1) (by omega)) (by omega) c s r hs) m m s1 r (Nat.le_refl _) k0
theorem Does.loopX {ex:Ex} (h:Does E c s (ex,s1)) (hx:ex≠.norm):Does E (.loop c) s (ex,s1):=by
 obtain ⟨N,h⟩:=h
 refine ⟨N+1,fun n hn=>?_⟩
 obtain ⟨m,rfl⟩:∃ m,n=m+1:=⟨n - 1,by omega⟩
 simp only [evCode]
 rw [iter_succ,h _ (by omega)]
 cases ex with
 | norm=>exact absurd rfl hx
 | _=>rfl
theorem Does.ret:Does E .ret s (.ret,s):=⟨0,fun _ _=>rfl⟩
theorem Does.exit (id:Nat):Does E (.exit id) s (.exit id,s):=⟨0,fun _ _=>rfl⟩
theorem Does.skip:Does E .skip s (.norm,s):=⟨0,fun _ _=>rfl⟩
/-- A call, by what its body comes to. -/
theorem Gives.of {f:FuncId} {args:Array Value} {H H':Mem} {fn:Func} {T':Tr Value} {v:Value} {ex:Ex} (hi:E.I f=none) (hb:E.bad f=false) (hf:E.P.funcs[f]?=some fn) (hc:fn.body=some c)
  (hn:args.size≤fn.ntmps) (h:Does E c (initT 0 args.toList .nil,H) (ex,T',H')) (hx:ex=.norm∨ex=.ret) (hr:ressV E.P T' H' fn.results.toList=some v):Gives E f args H v H':=by
 obtain ⟨N,h⟩:=h
 refine ⟨N+1,fun n hn'=>?_⟩
 obtain ⟨m,rfl⟩:∃ m,n=m+1:=⟨n - 1,by omega⟩
 rw [evCall_eq]
 simp only [hi,hb,hf,hc,h m (by omega),if_neg (show ¬ fn.ntmps < args.size by omega),Bool.false_eq_true,if_false]
 rcases hx with rfl | rfl<;>simp [hr]
theorem Gives.ev {f:FuncId} {args:Array Value} {H H':Mem} {v:Value} (h:Gives E f args H v H'):∃ n H1,evCall E n f args H=some (v,H1):=by
 obtain ⟨N,h⟩:=h
 exact ⟨N,H',h N (Nat.le_refl _)⟩
end
/-! ### What code comes to, and what holds there -/
def DoesP (E:Env) (c:Code) (s:St) (Q:Ex→Tr Value→Mem→Prop):Prop:=∃ ex T H,Does E c s (ex,T,H)∧Q ex T H
section
variable {E:Env} {c a b:Code} {s:St} {T:Tr Value} {H:Mem} {Q R:Ex→Tr Value→Mem→Prop}
theorem DoesP.now (k:Nat) (h:∃ r,(∀ n,evCode E (evCall E (n+k)) (n+k) c s=some r)∧Q r.1 r.2.1 r.2.2):DoesP E c s Q:=by
 obtain ⟨r,h,q⟩:=h
 exact ⟨r.1,r.2.1,r.2.2,.now k h,q⟩
theorem DoesP.mono (h:DoesP E c s Q) (k:∀ ex T H,Q ex T H→R ex T H):DoesP E c s R:=by
 obtain ⟨ex,T,H,h,q⟩:=h
 exact ⟨ex,T,H,h,k _ _ _ q⟩
theorem DoesP.seq (h:DoesP E a s fun ex T H=>match ex with | .norm=>DoesP E b (T,H) Q | e=>Q e T H):DoesP E (.seq a b) s Q:=by
 obtain ⟨ex,T,H,h,q⟩:=h
 cases ex with
 | norm=>obtain ⟨ex',T',H',h',q'⟩:=q;exact ⟨ex',T',H',h.seq h',q'⟩
 | exit i=>exact ⟨_,T,H,h.seqX (by simp),q⟩
 | ret=>exact ⟨_,T,H,h.seqX (by simp),q⟩
theorem DoesP.ite {o:Operand} {t:Bool} (ho:evalO s.1 o=.bool t) (h:DoesP E (if t then a else b) s Q):DoesP E (.cond o a b) s Q:=by
 obtain ⟨ex,T,H,h,q⟩:=h
 exact ⟨ex,T,H,h.ite ho,q⟩
theorem DoesP.block {id:Nat} (h:DoesP E c s fun ex T H=>match ex with | .exit i=>if i=id then Q .norm T H else Q (.exit i) T H | e=>Q e T H):DoesP E (.block id c) s Q:=by
 obtain ⟨ex,T,H,h,q⟩:=h
 refine ⟨_,T,H,h.block,?_⟩
 cases ex with
 | exit i=>by_cases hi:i=id<;>simp [hi] at q ⊢<;>exact q
 | norm=>exact q
 | ret=>exact q
/-- A loop: what holds ahead of each round, with what is left to do. -/
theorem DoesP.loop {I:Nat→Tr Value→Mem→Prop} (n:Nat) (h0:I n T H) (h:∀ n T H,I n T H→DoesP E c (T,H) fun ex T' H'=>match ex with | .norm=>∃ m,m < n∧I m T' H' | e=>Q e T' H'):DoesP E (.loop c) (T,H) Q:=by
 induction n using Nat.strongRecOn generalizing T H with
 | _ n ih =>
  obtain ⟨ex,T',H',h1,q⟩:=h n T H h0
  cases ex with
  | norm =>
   obtain ⟨m,hm,q⟩:=q
   obtain ⟨ex,T2,H2,h2,q2⟩:=ih m hm q
   exact ⟨ex,T2,H2,h1.loop h2,q2⟩
  | exit i=>exact ⟨_,T',H',h1.loopX (by simp),q⟩
  | ret=>exact ⟨_,T',H',h1.loopX (by simp),q⟩
theorem DoesP.ret (h:Q .ret s.1 s.2):DoesP E .ret s Q:=⟨_,_,_,Does.ret,h⟩
theorem DoesP.exit {id:Nat} (h:Q (.exit id) s.1 s.2):DoesP E (.exit id) s Q:=⟨_,_,_,Does.exit id,h⟩
theorem DoesP.skip (h:Q .norm s.1 s.2):DoesP E .skip s Q:=⟨_,_,_,Does.skip,h⟩
end
theorem Gives.eq {E:Env} {f:FuncId} {args:Array Value} {H H' H'':Mem} {v v':Value} (h:Gives E f args H v H') (k:Gives E f args H v' H''):v=v'∧H'=H'':=by
 obtain ⟨N,h⟩:=h
 obtain ⟨N',k⟩:=k
 have h1:=h (max N N') (by omega)
 rw [k _ (by omega)] at h1
 cases h1
 exact ⟨rfl,rfl⟩
/-- A function as it is. -/
noncomputable def selfI (E:Env) (f:FuncId):Intr:=fun args H=>by
 classical exact if h:∃ r:Value × Mem,Gives E f args H r.1 r.2 then some h.choose else none
theorem selfI_eq {E:Env} {f:FuncId} {args:Array Value} {H H':Mem} {v:Value} (h:Gives E f args H v H'):selfI E f args H=some (v,H'):=by
 unfold selfI
 have hx:∃ r:Value × Mem,Gives E f args H r.1 r.2:=⟨(v,H'),h⟩
 simp only [hx,dif_pos]
 have:=hx.choose_spec
 obtain ⟨e1,e2⟩:=h.eq this
 rw [e1,e2]
theorem selfI_ok {B:Base} (hB:B.Ok) {L:List (FuncId × Intr)} (hL:AllOk B.P L) (f:FuncId):IntrOk B.P f (selfI (B.env L) f):=by
 have key:∀ {args H v H'},selfI (B.env L) f args H=some (v,H')→∃ n,evCall (B.env L) n f args H=some (v,H'):=fun {args H v H'} h=>by
  unfold selfI at h
  split at h
  ·rename_i hx
   obtain ⟨N,hN⟩:=hx.choose_spec
   have:=hN N (Nat.le_refl _)
   simp only [Option.some.injEq] at h
   rw [h] at this
   exact ⟨N,this⟩
  ·cases h
 refine ⟨fun args H v H' hg W=>?_,fun base args H v H' hg μ w args' R ha=>?_⟩
 ·obtain ⟨n,hn⟩:=key hg
  exact evCall_a (B.env L) (fun f g hg=>(hL f g (lookI_mem L hg)).a) n f args H v H' hn W
 ·obtain ⟨n,hn⟩:=key hg
  exact evCall_ok (B.sound hB hL base) n f args H v H' hn μ w args' R ha
/-! ### Cells that are read -/
def ints (k:IntKind) (l:List Int):List Value:=l.map (Value.int k)
@[simp] theorem ints_length (k:IntKind) (l:List Int):(ints k l).length=l.length:=by simp [ints]
/-- The n-th number. -/
def nth (l:List Int) (n:Nat):Int:=l.getD n 0
@[simp] theorem idx_nat (k:IntKind) (n:Nat):idx (.int k (n:Int))=some n:=by simp [idx]
end Go.Proofs.YtmndbhgbngkakaaDoor.E
end
section
/- The evaluator: weakest preconditions; memory of one form; a result that may be written. No condition but those that are written out. -/
namespace Go.Proofs.YtmndbhgbngkakaaDoor.E
open Go Go.RowKit
set_option linter.all false

/-! ### Tables of one form -/
namespace Tr
variable {α:Type}
theorem setF_nil (f n:Nat) (x:α):setF (f+1) .nil n x=if n=0 then .node (some x) .nil .nil else if n % 2=1 then .node none (setF f .nil (n / 2) x) .nil else .node none .nil (setF f .nil (n / 2 - 1) x):=rfl
theorem setF_node (f n:Nat) (v:Option α) (l r:Tr α) (x:α):setF (f+1) (.node v l r) n x=if n=0 then .node (some x) l r else if n % 2=1 then .node v (setF f l (n / 2) x) r else .node v l (setF f r (n / 2 - 1) x):=rfl
theorem setF_setF:∀ (f g:Nat) (t:Tr α) (n:Nat) (x y:α),n < f→n < g→setF g (setF f t n x) n y=setF g t n y
 | 0,_,_,_,_,_,h,_=>by omega
 | _,0,_,_,_,_,_,h=>by omega
 | f+1,g+1,t,n,x,y,h,h'=>by
  by_cases h0:n=0
  ·cases t<;>simp [setF_nil,setF_node,h0]
  ·have e1:=fun t=>setF_setF f g t (n / 2) x y (by omega) (by omega)
   have e2:=fun t=>setF_setF f g t (n / 2 - 1) x y (by omega) (by omega)
   by_cases h1:n % 2=1<;>cases t<;>simp [setF_nil,setF_node,h0,h1,e1,e2]
theorem set_set (t:Tr α) (n:Nat) (x y:α):(t.set n x).set n y=t.set n y:=setF_setF _ _ _ _ _ _ (by omega) (by omega)
end Tr
/-! ### Weakest preconditions -/
def catchX (id:Nat):Ex→Ex
 | .exit i=>if i=id then .norm else .exit i
 | e=>e
def WP (E:Env):Code→St→(Ex→St→Prop)→Prop
 | .skip,s,Q=>Q .norm s
 | .region id ops draw,s,Q=>∃ s',(∃ N,∀ n,(if draw then evDraw E (evCall E (n+N+1)) ops ops.toList 0 s.1 s.2 else evList E (evCall E (n+N+1)) ops ops.toList s.1 s.2)=some s')∧Q .norm s'
 | .seq a b,s,Q=>WP E a s fun ex s'=>match ex with | .norm=>WP E b s' Q | e=>Q e s'
 | .cond o a b,s,Q=>match evalO s.1 o with | .bool true=>WP E a s Q | .bool false=>WP E b s Q | _=>False
 | .block id c,s,Q=>WP E c s fun ex s'=>Q (catchX id ex) s'
 | .loop c,s,Q=>∃ r:Ex × St,Does E (.loop c) s r∧Q r.1 r.2
 | .exit id,s,Q=>Q (.exit id) s
 | .ret,s,Q=>Q .ret s
 | _,_,_=>False
section
variable {E:Env}
theorem WP_does:∀ (c:Code) {s:St} {Q:Ex→St→Prop},WP E c s Q→∃ r:Ex × St,Does E c s r∧Q r.1 r.2:=by
 intro c
 induction c with
 | skip=>intro s Q h;exact ⟨_,.skip,h⟩
 | region id ops draw =>
  intro s Q h
  obtain ⟨s',⟨N,h⟩,q⟩:=h
  exact ⟨(.norm,s'),⟨N+1,fun n hn=>by obtain ⟨m,rfl⟩:=Nat.exists_eq_add_of_le hn;simp only [evCode];rw [show N+1+m=m+N+1 by omega,h m];rfl⟩,q⟩
 | seq a b iha ihb =>
  intro s Q h
  simp only [WP] at h
  obtain ⟨⟨ex,s'⟩,h1,q⟩:=iha h
  cases ex with
  | norm=>obtain ⟨r,h2,q⟩:=ihb q;exact ⟨r,h1.seq h2,q⟩
  | exit i=>exact ⟨_,h1.seqX (by simp),q⟩
  | ret=>exact ⟨_,h1.seqX (by simp),q⟩
 | cond o a b iha ihb =>
  intro s Q h
  simp only [WP] at h
  split at h
  ·rename_i ho;obtain ⟨r,h1,q⟩:=iha h;exact ⟨r,.ite ho (by simpa using h1),q⟩
  ·rename_i ho;obtain ⟨r,h1,q⟩:=ihb h;exact ⟨r,.ite ho (by simpa using h1),q⟩
  ·exact h.elim
 | block id c ih =>
  intro s Q h
  obtain ⟨⟨ex,s'⟩,h1,q⟩:=ih h
  refine ⟨_,h1.block,?_⟩
  cases ex<;>exact q
 | loop c ih=>intro s Q h;exact h
 | exit id=>intro s Q h;exact ⟨_,.exit id,h⟩
 | ret=>intro s Q h;exact ⟨_,.ret,h⟩
 | _=>intro s Q h;simp [WP] at h
/-- A loop: what holds ahead of each round, with what is left to do. -/
theorem WP_loop {c:Code} {T:Tr Value} {H:Mem} {Q:Ex→St→Prop} (I:Nat→Tr Value→Mem→Prop) (n:Nat) (h0:I n T H)
  (h:∀ n T H,I n T H→WP E c (T,H) fun ex s'=>match ex with | .norm=>∃ m,m < n∧I m s'.1 s'.2 | e=>Q e s'):WP E (.loop c) (T,H) Q:=by
 show ∃ r:Ex × St,_
 induction n using Nat.strongRecOn generalizing T H with
 | _ n ih =>
  obtain ⟨⟨ex,s'⟩,h1,q⟩:=WP_does c (h n T H h0)
  cases ex with
  | norm =>
   obtain ⟨m,hm,q⟩:=q
   obtain ⟨r,h2,q2⟩:=ih m hm q
   exact ⟨r,h1.loop h2,q2⟩
  | exit i=>exact ⟨_,h1.loopX (by simp),q⟩
  | ret=>exact ⟨_,h1.loopX (by simp),q⟩
theorem gives_WP {f:FuncId} {args:Array Value} {H:Mem} {fn:Func} {c:Code} {Q:Value→Mem→Prop} (hi:E.I f=none) (hb:E.bad f=false) (hf:E.P.funcs[f]?=some fn) (hc:fn.body=some c) (hn:args.size≤fn.ntmps)
  (h:WP E c (initT 0 args.toList .nil,H) fun ex s'=>match ex with | .exit _=>False | _=>∃ v,ressV E.P s'.1 s'.2 fn.results.toList=some v∧Q v s'.2):∃ v H',Gives E f args H v H'∧Q v H':=by
 obtain ⟨⟨ex,T',H'⟩,h,q⟩:=WP_does c h
 cases ex with
 | exit i=>exact q.elim
 | norm=>obtain ⟨v,hv,q⟩:=q;exact ⟨v,H',.of hi hb hf hc hn h (.inl rfl) hv,q⟩
 | ret=>obtain ⟨v,hv,q⟩:=q;exact ⟨v,H',.of hi hb hf hc hn h (.inr rfl) hv,q⟩
theorem WP_region {id:Nat} {ops:Array Oper} {draw:Bool} {s:St} {Q:Ex→St→Prop}:WP E (.region id ops draw) s Q=∃ s',(∃ N,∀ n,(if draw then evDraw E (evCall E (n+N+1)) ops ops.toList 0 s.1 s.2 else evList E (evCall E (n+N+1)) ops ops.toList s.1 s.2)=some s')∧Q .norm s':=rfl
theorem WP_seq {a b:Code} {s:St} {Q:Ex→St→Prop}:WP E (.seq a b) s Q=WP E a s (fun ex s'=>match ex with | .norm=>WP E b s' Q | e=>Q e s'):=rfl
theorem WP_block {id:Nat} {c:Code} {s:St} {Q:Ex→St→Prop}:WP E (.block id c) s Q=WP E c s (fun ex s'=>Q (catchX id ex) s'):=rfl
theorem WP_cond {o:Operand} {a b:Code} {s:St} {Q:Ex→St→Prop}:WP E (.cond o a b) s Q=match evalO s.1 o with | .bool true=>WP E a s Q | .bool false=>WP E b s Q | _=>False:=rfl
theorem WP_exit {id:Nat} {s:St} {Q:Ex→St→Prop}:WP E (.exit id) s Q=Q (.exit id) s:=rfl
theorem WP_ret {s:St} {Q:Ex→St→Prop}:WP E .ret s Q=Q .ret s:=rfl
theorem WP_skip {s:St} {Q:Ex→St→Prop}:WP E .skip s Q=Q .norm s:=rfl
end
end Go.Proofs.YtmndbhgbngkakaaDoor.E
end
section
/- The evaluator: functions of rows that are only read, to one new row that may be written. No condition but those that are written out. -/
namespace Go.Proofs.YtmndbhgbngkakaaDoor.E
open Go Go.RowKit
set_option linter.all false

theorem new_get (H:Mem) (cs:List Value) (e i:Nat):(H.new cs e).obs.get i=if H.n=i then some (.blk ⟨cs,e,H.n,0,false⟩) else H.obs.get i:=Tr.get_set _ _ _ _
section
variable {base:Nat} {μ:Mp} {H:Mem} {w:World}
end
end Go.Proofs.YtmndbhgbngkakaaDoor.E
end
section
/- The evaluator: more of what its parts yield. No condition but those that are written out. -/
namespace Go.Proofs.YtmndbhgbngkakaaDoor.E
open Go Go.RowKit
set_option linter.all false

section
variable {P:Program} {t s d:TypeId} {x y:Operand} {k k':IntKind} {a b:Int}
theorem bin_quo (h:b≠0):binV P .quo t x y (.int k a) (.int k b)=some (.int k (k.wrap (Int.tdiv a b))):=by
 refine bin_pure rfl rfl ?_ rfl
 have:pureRun P (do eqGuard .quo t x y (.int k a) (.int k b);binOp .quo t (.int k a) (.int k b))=pureRun P (Op.intDiv .quo k a b):=by cases k<;>rfl
 rw [this]
 unfold Op.intDiv
 rw [if_neg h]
 rfl
theorem bin_rem (h:b≠0):binV P .rem t x y (.int k a) (.int k b)=some (.int k (Int.tmod a b)):=by
 refine bin_pure rfl rfl ?_ rfl
 have:pureRun P (do eqGuard .rem t x y (.int k a) (.int k b);binOp .rem t (.int k a) (.int k b))=pureRun P (Op.intDiv .rem k a b):=by cases k<;>rfl
 rw [this]
 unfold Op.intDiv
 rw [if_neg h]
 rfl
theorem bin_shl (h:0≤b):binV P .shl t x y (.int k a) (.int k' b)=some (.int k (k.wrap (a*2 ^ min b.toNat k.bits))):=by
 refine bin_pure rfl rfl ?_ rfl
 have:pureRun P (do eqGuard .shl t x y (.int k a) (.int k' b);binOp .shl t (.int k a) (.int k' b))=pureRun P (Op.shift .shl k a k' b):=rfl
 rw [this]
 unfold Op.shift
 rw [if_neg (by omega)]
 rfl
theorem bin_shr (h:0≤b):binV P .shr t x y (.int k a) (.int k' b)=some (.int k (a / 2 ^ min b.toNat k.bits)):=by
 refine bin_pure rfl rfl ?_ rfl
 have:pureRun P (do eqGuard .shr t x y (.int k a) (.int k' b);binOp .shr t (.int k a) (.int k' b))=pureRun P (Op.shift .shr k a k' b):=rfl
 rw [this]
 unfold Op.shift
 rw [if_neg (by omega)]
 show some (Value.int k (a.fdiv (2 ^ min b.toNat k.bits)))=_
 rw [Int.fdiv_eq_ediv_of_nonneg _ (Int.le_of_lt (Int.pow_pos (by decide)))]
@[simp] theorem bin_or:binV P .or t x y (.int k a) (.int k b)=some (.int k (Go.bits .or k a b)):=bin_pure rfl rfl (by cases k<;>rfl) rfl
@[simp] theorem bin_and:binV P .and t x y (.int k a) (.int k b)=some (.int k (Go.bits .and k a b)):=bin_pure rfl rfl (by cases k<;>rfl) rfl
@[simp] theorem bin_xor:binV P .xor t x y (.int k a) (.int k b)=some (.int k (Go.bits .xor k a b)):=bin_pure rfl rfl (by cases k<;>rfl) rfl
@[simp] theorem un_not {p:Bool}:pureV P (Op.unary .not (.bool p))=some (.bool (!p)):=rfl
theorem conv_int {ds:TypeDesc} {H:Mem} (hs:P.underlying s=some ds) (hd:P.underlying d=some (.int k')):convV P H s d (.int k a)=some (.int k' (k'.wrap a)):=by
 have hf:flat depth (Value.int k a)=true:=rfl
 unfold convV
 rw [if_pos hf]
 unfold pureV convert
 rw [pureRun_bind,pureRun_underlying hs]
 simp only [Option.bind_some]
 rw [pureRun_bind,pureRun_underlying hd]
 rfl
end
theorem max_int {P:Program} {ts:Array TypeId} {ty:TypeId} {k k':IntKind} {a b:Int}:pureV P (Builtin.max_ ts ty #[.int k a,.int k' b])=some (.int k (if a < b then b else a)):=by
 simp [pureV,Builtin.max_,Builtin.max2,pureRun_bind]
 rfl
theorem min_int {P:Program} {ts:Array TypeId} {ty:TypeId} {k k':IntKind} {a b:Int}:pureV P (Builtin.min_ ts ty #[.int k a,.int k' b])=some (.int k (if b < a then b else a)):=by
 simp [pureV,Builtin.min_,Builtin.min2,pureRun_bind]
 rfl
/-! ### Rows of numbers -/
@[simp] theorem ints_flat' (k:IntKind) (l:List Int):(ints k l).all (flat depth)=true:=by
 rw [List.all_eq_true]
 intro v hv
 obtain ⟨n,_,rfl⟩:=List.mem_map.1 hv
 rfl
@[simp] theorem ints_one (k:IntKind) (l:List Int):(ints k l).all (·.oneCell')=true:=by
 rw [List.all_eq_true]
 intro v hv
 obtain ⟨n,_,rfl⟩:=List.mem_map.1 hv
 rfl
theorem int_beq (a b:Int):(a == b)=decide (a=b):=by by_cases h:a=b<;>simp [h]
theorem u32_wrap (x:Int):IntKind.u32.wrap x=x % 4294967296:=by simp [IntKind.wrap,IntKind.bits,IntKind.signed]
theorem i64_wrap (x:Int):IntKind.i64.wrap x=wrap64 x:=by simp [IntKind.wrap,IntKind.bits,IntKind.signed,wrap64];omega
end Go.Proofs.YtmndbhgbngkakaaDoor.E
end
