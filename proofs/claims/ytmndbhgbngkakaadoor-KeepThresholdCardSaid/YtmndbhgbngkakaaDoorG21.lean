/- What is handed to a law, as plain data. No condition but those that are written out. -/
import Derived.Test.YtmndbhgbngkakaaDoorGB
import Derived.Test.YtmndbhgbngkakaaDoorEB
import Derived.ChangeArms
import Derived.ChangeReads
import Derived.DataElems
import Derived.WideShapes
namespace Go.Proofs.YtmndbhgbngkakaaDoor.G
open Go Go.RowKit Go.Proofs.YtmndbhgbngkakaaDoor.E
set_option linter.all false

/-- Numbers are of their kinds, texts not too long, also in what lies in it. -/
def rgF:Nat→FV→Prop
 | 0,_=>True
 | _+1,.int k x=>(Lit.int k x).wf=true
 | _+1,.str s=>s.size≤maxLen
 | n+1,.row _ l=>l.length≤maxLen∧∀ x,x∈l→∀ c,c∈x.cells→rgF n c
 | n+1,.agg cs=>∀ c,c∈cs→rgF n c
 | _+1,_=>True
/-- The shapes of a struct's fields, that lie side by side. -/
def shFs (g:TypeId→Option (List Shp)) (P:Program):List Field→Nat→Option (List Shp)
 | [],_=>some []
 | f::fs,off =>
  match g f.type with
  | some ss=>if f.offset=off∧P.cellsOf f.type=ss.length then (shFs g P fs (off+ss.length)).map (ss ++ ·) else none
  | none=>none
/-- The shapes of a type's cells. -/
def shC (P:Program):Nat→TypeId→Option (List Shp)
 | 0,_=>none
 | n+1,t =>
  match P.underlying t with
  | some (.int k)=>some [.int k]
  | some .bool=>some [.bool]
  | some .string=>some [.str]
  | some (.slice e) =>
   match shC P n e,(P.underlying e).map isAggD with
   | some ss,some true=>if P.cellsOf e=ss.length∧0 < ss.length then some [.row (.agg ss)] else none
   | some [s],some false=>if P.cellsOf e=1∧s.cell1=true then some [.row s] else none
   | _,_=>none
  | some (.struct fs) =>
   match shFs (shC P n) P fs.toList 0 with
   | some ss=>if P.cellsOf t=ss.length then some ss else none
   | none=>none
  | _=>none
mutual
theorem eqb_self:∀ s:Shp,Shp.eqb s s=true
 | .int k=>by simp [Shp.eqb]
 | .bool=>by simp [Shp.eqb]
 | .str=>by simp [Shp.eqb]
 | .agg cs=>by simp [Shp.eqb,eqbL_self cs]
 | .row s=>by simp [Shp.eqb,eqb_self s]
theorem eqbL_self:∀ l:List Shp,Shp.eqbL l l=true
 | []=>by simp [Shp.eqbL]
 | s::l=>by simp [Shp.eqbL,eqb_self s,eqbL_self l]
end
def Hap (H:Mem) (μ:Mp):Prop:=∀ i m,μ i=some m→owner H i=none
structure Ext2 (W:World) (H:Mem) (μ:Mp) (H':Mem) (μ':Mp):Prop where
 rl:Rl W.heap.size μ' H' W
 hap:Hap H' μ'
 ext:Ext μ μ'
 adds:Adds H H'
theorem Ext2.refl {W:World} {H:Mem} {μ:Mp} (R:Rl W.heap.size μ H W) (hp:Hap H μ):Ext2 W H μ H μ:=⟨R,hp,.refl μ,.refl H⟩
theorem Ext2.trans {W:World} {H H1 H2:Mem} {μ μ1 μ2:Mp} (a:Ext2 W H μ H1 μ1) (b:Ext2 W H1 μ1 H2 μ2):Ext2 W H μ H2 μ2:=⟨b.rl,b.hap,a.ext.trans b.ext,a.adds.trans b.adds⟩
theorem adds_le {H H':Mem} (W:WF H) (a:Adds H H'):Le (cx0 H) (cx0 H'):=⟨fun i b h=>by
 obtain ⟨h1,h2⟩:=h
 refine ⟨?_,h2⟩
 obtain ⟨h3,h4⟩:=live_some h1
 refine live_of ((a.obs i (W.lt _ _ h3)).trans h3) ?_
 have:H'.gen b.fam=H.gen b.fam:=by unfold Mem.gen;rw [a.gens]
 unfold Blk.alive at h4 ⊢
 show (b.ro || b.gen == H'.gen b.fam)=true
 rw [this];exact h4,fun id i h=>by cases h⟩
/-- Cells of those shapes, as plain data. -/
def Job (W:World) (shs:List Shp) (cs:List Value):Prop:=∀ H μ,Rl W.heap.size μ H W→Hap H μ→∃ (H':Mem) (μ':Mp) (vs:List Value) (ys:List FV),Ext2 W H μ H' μ'∧VRs μ' vs cs∧FRs (cx0 H') ys vs∧hasL shs ys=true∧∀ y,y∈ys→∀ n,rgF n y
theorem hasL_app:∀ {a b:List Shp} {x y:List FV},hasL a x=true→hasL b y=true→hasL (a++b) (x++y)=true
 | [],b,[],y,_,h=>h
 | [],b,_::_,y,h,_=>by cases h
 | _::_,b,[],y,h,_=>by cases h
 | s::a,b,x::xs,y,h,g=>by
  simp only [hasL,Bool.and_eq_true,List.cons_append] at h ⊢
  exact ⟨h.1,hasL_app h.2 g⟩
theorem vrs_app {μ:Mp} {a b c d:List Value} (h:VRs μ a b) (g:VRs μ c d):VRs μ (a++c) (b++d):=by
 refine ⟨by rw [List.length_append,List.length_append,h.1,g.1],fun i x y hx hy=>?_⟩
 rcases Nat.lt_or_ge i a.length with hi | hi
 ·rw [List.getElem?_append_left hi] at hx
  rw [List.getElem?_append_left (by rw [← h.1];exact hi)] at hy
  exact h.2 i x y hx hy
 ·rw [List.getElem?_append_right hi] at hx
  rw [List.getElem?_append_right (by rw [← h.1];exact hi),← h.1] at hy
  exact g.2 _ x y hx hy
theorem frs_app {C:Cx} {a c:List FV} {b d:List Value} (h:FRs C a b) (g:FRs C c d):FRs C (a++c) (b++d):=by
 refine ⟨by rw [List.length_append,List.length_append,h.1,g.1],fun i x y hx hy=>?_⟩
 rcases Nat.lt_or_ge i a.length with hi | hi
 ·rw [List.getElem?_append_left hi] at hx
  rw [List.getElem?_append_left (by rw [← h.1];exact hi)] at hy
  exact h.2 i x y hx hy
 ·rw [List.getElem?_append_right hi] at hx
  rw [List.getElem?_append_right (by rw [← h.1];exact hi),← h.1] at hy
  exact g.2 _ x y hx hy
theorem vrs_mono {μ μ':Mp} (h:Ext μ μ') {a b:List Value} (g:VRs μ a b):VRs μ' a b:=⟨g.1,fun i x y hx hy=>(g.2 i x y hx hy).mono h⟩
theorem frs_mono {C C':Cx} (h:Le C C') {a:List FV} {b:List Value} (g:FRs C a b):FRs C' a b:=⟨g.1,fun i x y hx hy=>(g.2 i x y hx hy).mono h⟩
theorem Job.nil (W:World):Job W [] []:=fun H μ R hp=>⟨H,μ,[],[],.refl R hp,⟨rfl,fun i x y h=>by simp at h⟩,.nil _,rfl,fun y hy=>by cases hy⟩
theorem Job.app {W:World} {a b:List Shp} {x y:List Value} (h:Job W a x) (g:Job W b y):Job W (a++b) (x++y):=fun H μ R hp=>by
 obtain ⟨H1,μ1,vs1,ys1,e1,v1,f1,s1,r1⟩:=h H μ R hp
 obtain ⟨H2,μ2,vs2,ys2,e2,v2,f2,s2,r2⟩:=g H1 μ1 e1.rl e1.hap
 refine ⟨H2,μ2,vs1++vs2,ys1++ys2,e1.trans e2,vrs_app (vrs_mono e2.ext v1) v2,frs_app (frs_mono (adds_le e1.rl.wf e2.adds) f1) f2,hasL_app s1 s2,fun y hy=>?_⟩
 rcases List.mem_append.1 hy with hy | hy
 ·exact r1 y hy
 ·exact r2 y hy
theorem Job.one {W:World} {s:Shp} {v:Value} {y:FV} (hv:∀ μ,VR μ v v) (hf:∀ C,FR C y v) (hs:has1 s y=true) (hr:∀ n,rgF n y):Job W [s] [v]:=fun H μ R hp =>
 ⟨H,μ,[v],[y],.refl R hp,⟨rfl,fun i a b ha hb=>by
  rcases i with _ | i
  ·simp at ha hb;subst ha;subst hb;exact hv μ
  ·simp at ha⟩,.cons (hf _) (.nil _),by simp [hasL,hs],fun z hz n=>by rw [List.mem_singleton.1 hz];exact hr n⟩
/-- Elements that lie side by side. -/
def JobE (W:World) (sh:Shp) (css:List (List Value)):Prop:=∀ H μ,Rl W.heap.size μ H W→Hap H μ→∃ (H':Mem) (μ':Mp) (vs:List Value) (l:List FV),Ext2 W H μ H' μ'∧VRs μ' vs css.flatten∧l.length=css.length∧vs.length=l.length*sh.size∧(∀ x,x∈l→has sh x=true) ∧
 (∀ (n:Nat) (x:FV) (j:Nat) (c:FV) (y:Value),l[n]?=some x→x.cells[j]?=some c→vs[n*sh.size+j]?=some y→FR (cx0 H') c y)∧∀ x:FV,x∈l→∀ c,c∈x.cells→∀ n,rgF n c
theorem has1_cells:∀ {s:Shp} {y:FV},has1 s y=true→y.cells=[y]
 | .int _,.int _ _,_=>rfl
 | .bool,.bool _,_=>rfl
 | .str,.str _,_=>rfl
 | .row _,.row _ _,_=>rfl
/-- How the shape of an element goes with the shapes of its cells. -/
def elOf (sh:Shp) (ss:List Shp):Prop:=sh=.agg ss∨(ss=[sh]∧sh.cell1=true)
theorem elOf.size {sh:Shp} {ss:List Shp} (h:elOf sh ss):sh.size=ss.length:=by
 rcases h with rfl | ⟨rfl,h⟩
 ·rfl
 ·cases sh<;>first | rfl | cases h
theorem elOf.mk {sh:Shp} {ss:List Shp} (h:elOf sh ss) {ys:List FV} (hy:hasL ss ys=true):∃ x,has sh x=true∧x.cells=ys:=by
 rcases h with rfl | ⟨rfl,h⟩
 ·exact ⟨.agg ys,hy,rfl⟩
 ·rcases ys with _ | ⟨y,_ | ⟨z,ys⟩⟩
  ·cases hy
  ·simp only [hasL,Bool.and_true] at hy
   refine ⟨y,?_,has1_cells hy⟩
   cases sh<;>first | exact hy | cases h
  ·simp [hasL] at hy
theorem JobE.nil (W:World) (sh:Shp):JobE W sh []:=fun H μ R hp=>by
 refine ⟨H,μ,[],[],.refl R hp,⟨rfl,fun i x y h=>by simp at h⟩,rfl,by simp,fun x h=>(by cases h),fun n x j c y h=>(by simp at h),fun x h=>(by cases h)⟩
theorem JobE.cons {W:World} {sh:Shp} {ss:List Shp} {cs:List Value} {css:List (List Value)} (he:elOf sh ss) (h:Job W ss cs) (g:JobE W sh css):JobE W sh (cs::css):=fun H μ R hp=>by
 obtain ⟨H1,μ1,vs1,ys1,e1,v1,f1,s1,r1⟩:=h H μ R hp
 obtain ⟨H2,μ2,vs2,l,e2,v2,hl,hv,hs,hf,hr⟩:=g H1 μ1 e1.rl e1.hap
 obtain ⟨x,hx,hc⟩:=he.mk s1
 have hy:ys1.length=sh.size:=(hasL_len s1).trans he.size.symm
 have hvl:vs1.length=sh.size:=f1.1.symm.trans hy
 refine ⟨H2,μ2,vs1++vs2,x::l,e1.trans e2,vrs_app (vrs_mono e2.ext v1) v2,by simp [hl],by rw [List.length_append,hvl,hv,List.length_cons,Nat.succ_mul];omega,fun z hz=>?_,fun n z j c y hn hj hy=>?_,fun z hz=>?_⟩
 ·rcases List.mem_cons.1 hz with rfl | hz
  ·exact hx
  ·exact hs z hz
 ·rcases n with _ | n
  ·simp at hn;subst hn
   rw [hc] at hj
   have hjl:j < vs1.length:=by rw [← f1.1];exact (List.getElem?_eq_some_iff.1 hj).1
   rw [Nat.zero_mul,Nat.zero_add,List.getElem?_append_left hjl] at hy
   exact (f1.2 j c y hj hy).mono (adds_le e1.rl.wf e2.adds)
  ·rw [List.getElem?_cons_succ] at hn
   rw [Nat.succ_mul,List.getElem?_append_right (by omega),hvl,show n*sh.size+sh.size+j - sh.size=n*sh.size+j by omega] at hy
   exact hf n z j c y hn hj hy
 ·rcases List.mem_cons.1 hz with rfl | hz
  ·rw [hc];exact r1
  ·exact hr z hz
theorem JobE.all {W:World} {sh:Shp} {ss:List Shp} (he:elOf sh ss):∀ {css:List (List Value)},(∀ cs,cs∈css→Job W ss cs)→JobE W sh css
 | [],_=>.nil W sh
 | cs::css,h=>.cons he (h cs (List.mem_cons_self ..)) (JobE.all he fun c hc=>h c (List.mem_cons_of_mem _ hc))
theorem flat_idx {α:Type} {c:Nat}:∀ {css:List (List α)},(∀ cs,cs∈css→cs.length=c)→∀ {j:Nat} {v:α},css.flatten[j]?=some v→∃ i r cs,css[i]?=some cs∧cs[r]?=some v∧j=i*c+r
 | [],_,j,v,h=>by simp at h
 | cs::css,hc,j,v,h=>by
  rw [List.flatten_cons] at h
  have h0:=hc cs (List.mem_cons_self ..)
  rcases Nat.lt_or_ge j cs.length with hj | hj
  ·rw [List.getElem?_append_left hj] at h
   exact ⟨0,j,cs,rfl,h,by omega⟩
  ·rw [List.getElem?_append_right hj] at h
   obtain ⟨i,r,cs',h1,h2,h3⟩:=flat_idx (fun c hc'=>hc c (List.mem_cons_of_mem _ hc')) h
   exact ⟨i+1,r,cs',h1,h2,by rw [Nat.succ_mul];omega⟩
theorem flat_len {α:Type} {c:Nat}:∀ {css:List (List α)},(∀ cs,cs∈css→cs.length=c)→css.flatten.length=css.length*c
 | [],_=>by simp
 | cs::css,h=>by
  rw [List.flatten_cons,List.length_append,h cs (List.mem_cons_self ..),flat_len fun c hc'=>h c (List.mem_cons_of_mem _ hc'),List.length_cons,Nat.succ_mul];omega
theorem cell_lt {W:World} {a:Addr} {v:Value} (h:W.cell? a=some v):a.block < W.heap.size∧a.spot=none:=by
 unfold World.cell? at h
 split at h
 ·rename_i c _ _ hb
  refine ⟨(Array.getElem?_eq_some_iff.1 hb).1,?_⟩
  split at h
  ·cases h
  ·rename_i hs;simpa using hs
 ·cases h
/-- A slice. -/
theorem Job.row {W:World} {sh:Shp} {ss:List Shp} {css:List (List Value)} {a:Addr} {cap:Nat} (he:elOf sh ss) (hpos:0 < ss.length) (hj:∀ cs,cs∈css→Job W ss cs) (hl:∀ cs,cs∈css→cs.length=ss.length) (hcap:css.length≤cap) (hmx:css.length≤maxLen)
  (hc:∀ (i r:Nat) cs v,css[i]?=some cs→cs[r]?=some v→W.cell? (a.add (i*ss.length+r))=some v):Job W [.row sh] [.slice (some a) css.length cap]:=fun H μ R hp=>by
 rcases css with _ | ⟨cs0,css⟩
 ·exact ⟨H,μ,[.slice (some ⟨0,0,none⟩) 0 RO],[.row sh []],.refl R hp,⟨rfl,fun i x y hx hy=>by
   rcases i with _ | i
   ·simp at hx hy;subst hx;subst hy;exact .sliceR0 rfl
   ·simp at hx⟩,.cons (.rowE sh rfl (.inl rfl)) (.nil _),by simp [hasL,has1,eqb_self],fun y hy n=>by
   rw [List.mem_singleton.1 hy]
   rcases n with _ | n
   ·exact trivial
   ·exact ⟨Nat.zero_le _,fun x hx=>by cases hx⟩⟩
 ·have h00:0 < cs0.length:=by rw [hl cs0 (List.mem_cons_self ..)];exact hpos
  obtain ⟨v0,hv0⟩:∃ v,cs0[0]?=some v:=⟨_,List.getElem?_eq_getElem h00⟩
  have hcell0:=hc 0 0 cs0 v0 rfl hv0
  rw [Nat.zero_mul,show a.add (0+0)=a from rfl] at hcell0
  obtain ⟨hb,hs⟩:=cell_lt hcell0
  obtain ⟨H1,μ1,vs,l,e1,v1,hll,hvl,hsh,hf,hr⟩:=JobE.all he hj H μ R hp
  have hfl:=flat_len hl
  have hvc:vs.length=(cs0::css).flatten.length:=v1.1
  have A:=e1.rl.arg (cs:=vs) (cs':=(cs0::css).flatten) (A:=a) (cap:=cap) (e:=ss.length) hb hs (by rw [hvc,hfl];exact Nat.mul_le_mul_right _ hcap) v1 (fun j v hj=>by
   obtain ⟨i,r,cs,g1,g2,rfl⟩:=flat_idx hl hj
   exact hc i r cs v g1 g2) e1.hap
  obtain ⟨A1,A2,A3⟩:=A
  have ad:=Adds.arg H1 vs ss.length
  refine ⟨H1.arg vs ss.length,_,[.slice (some ⟨H1.n,0,none⟩) (cs0::css).length RO],[.row sh l],e1.trans ⟨A1,A2,A3,ad⟩,⟨rfl,fun i x y hx hy=>?_⟩,.cons ?_ (.nil _),by simp [hasL,has1,eqb_self],fun y hy n=>?_⟩
  ·rcases i with _ | i
   ·simp at hx hy;subst hx;subst hy
    have:=VR.sliceR (μ:=upd μ1 H1.n ⟨a,a.off+cap*ss.length,ss.length⟩) (a:=⟨H1.n,0,none⟩) (n:=css.length+1) (c:=cap) rfl (upd_same _ _ _) hcap
    have ea:MA.addr ⟨a,a.off+cap*ss.length,ss.length⟩ 0=a:=by
     unfold MA.addr
     cases a;simp at hs;subst hs;rfl
    rwa [ea] at this
   ·simp at hx
  ·rw [← hll]
   have hlv:(H1.arg vs ss.length).live H1.n=some ⟨vs,ss.length,H1.n,0,true⟩:=live_of (by rw [arg_get,if_pos rfl]) (by simp [Blk.alive])
   exact .row (eb:=⟨vs,ss.length,H1.n,0,true⟩) ⟨hlv,.inl rfl⟩ (by simp [hvl]) (.inl rfl) hsh fun n x j c y h1 h2 h3=>by
    rw [Nat.zero_add] at h3
    exact (hf n x j c y h1 h2 h3).mono (adds_le e1.rl.wf ad)
  ·rw [List.mem_singleton.1 hy]
   rcases n with _ | n
   ·exact trivial
   ·exact ⟨by rw [hll];exact hmx,fun x hx c hc=>hr x hx c hc n⟩
section
variable {P:Program} {W:World} {HH:Type} {enc:TypeId × Value→HH} {base:Nat} {sp:Nat→Bool} {held:Bool}
theorem take_drop_app {α:Type} (cs:List α) (off n:Nat):(cs.drop off).take n++cs.drop (off+n)=cs.drop off:=by
 rw [← List.drop_drop,List.take_append_drop]
/-- The fields of a struct. -/
theorem Job.fields {n:Nat} {g:TypeId→Option (List Shp)} {cs:List Value} (hg:∀ t ss cs x,g t=some ss→DataW.trod enc P W base sp held n t cs=some x→Job W ss cs∧cs.length=ss.length) :
  ∀ {fs:List Field} {off:Nat} {ss:List Shp},shFs g P fs off=some ss→(∀ f,f∈fs→∃ x,DataW.trod enc P W base sp held n f.type ((cs.drop f.offset).take (P.cellsOf f.type))=some x)→cs.length=off+ss.length→Job W ss (cs.drop off)
 | [],off,ss,h,_,hl=>by
  cases h
  rw [List.drop_of_length_le (by rw [hl];exact Nat.le_refl _)]
  exact .nil W
 | f::fs,off,ss,h,hf,hl=>by
  unfold shFs at h
  split at h
  ·rename_i s1 h1
   split at h
   ·rename_i hc
    obtain ⟨hc1,hc2⟩:=hc
    obtain ⟨s2,h2,rfl⟩:=Option.map_eq_some_iff.1 h
    obtain ⟨x,hx⟩:=hf f (List.mem_cons_self ..)
    rw [hc1,hc2] at hx
    obtain ⟨j1,_⟩:=hg _ _ _ _ h1 hx
    rw [List.length_append] at hl
    have j2:=Job.fields hg h2 (fun f' hf'=>hf f' (List.mem_cons_of_mem _ hf')) (by omega)
    rw [← take_drop_app cs off s1.length]
    exact j1.app j2
   ·cases h
  ·cases h
theorem cells_get {a:Addr} {k:Nat} {cs:List Value} (h:W.cells? base a k=some cs):cs.length=k∧∀ r v,cs[r]?=some v→W.cell? (a.add r)=some v:=by
 unfold World.cells? at h
 split at h
 ·have hl:=mapM_some_length h
  rw [List.length_range] at hl
  refine ⟨hl,fun r v hr=>?_⟩
  have hr':r < k:=by rw [← hl];exact (List.getElem?_eq_some_iff.1 hr).1
  have:=mapM_some_get h r r (by simp [hr'])
  rw [this];exact hr
 ·cases h
/-- What is read of a type is of its shapes. -/
theorem Job.of:∀ {m:Nat} {t:TypeId} {ss:List Shp} {n:Nat} {cs:List Value} {x:DataW HH × List MemPlace},shC P m t=some ss→DataW.trod enc P W base sp held n t cs=some x→Job W ss cs∧cs.length=ss.length
 | 0,t,ss,n,cs,x,h,_=>by cases h
 | m+1,t,ss,n,cs,x,h,hx=>by
  unfold shC at h
  split at h
  ·rename_i k hu
   cases h
   obtain ⟨z,rfl,_,hz⟩:=DataW.trod_int hu hx
   exact ⟨.one (y:=.int k z) (fun μ=>.int k z) (fun C=>.int k z) (by simp [has1]) fun n=>by cases n<;>first | exact trivial | exact hz,rfl⟩
  ·rename_i hu
   cases h
   obtain ⟨b,rfl,_⟩:=DataW.trod_bool hu hx
   exact ⟨.one (y:=.bool b) (fun μ=>.bool b) (fun C=>.bool b) rfl fun n=>by cases n<;>exact trivial,rfl⟩
  ·rename_i hu
   cases h
   obtain ⟨s,rfl,_,hs⟩:=DataW.trod_string hu hx
   exact ⟨.one (y:=.str s) (fun μ=>.string s) (fun C=>.str s) rfl fun n=>by cases n<;>first | exact trivial | exact hs,rfl⟩
  ·rename_i e hu
   have key:∀ sh s1,elOf sh s1→shC P m e=some s1→P.cellsOf e=s1.length→0 < s1.length→ss=[.row sh]→Job W ss cs∧cs.length=ss.length:=fun sh s1 he h1 hc hpos hss=>by
    subst hss
    rcases DataW.trod_slice hu hx with ⟨rfl,_⟩ | ⟨a,len,cap,elems,rest,n',rfl,rfl,_,hb,hlc,hcm,hel,hcell,_,_⟩
    ·exact ⟨.one (y:=.row sh []) (fun μ=>.snil 0 0) (fun C=>.rowN sh) (by simp [has1,eqb_self]) fun n=>by
      cases n with
      | zero=>exact trivial
      | succ n=>exact ⟨Nat.zero_le _,fun x hx=>(by cases hx)⟩,rfl⟩
    ·have hex:∀ i,i < len→∃ cs,W.cells? base (a.add (i*s1.length)) s1.length=some cs∧∃ y,DataW.trod enc P W base sp held n' e cs=some y:=fun i hi=>by
      have:=hcell i hi
      rw [List.getElem?_eq_getElem (by omega),hc] at this
      obtain ⟨cs,h1,h2⟩:=Option.bind_eq_some_iff.1 this
      exact ⟨cs,h1,_,h2⟩
     obtain ⟨css,hcl,hcs⟩:∃ css:List (List Value),css.length=len∧∀ i cs,css[i]?=some cs→W.cells? base (a.add (i*s1.length)) s1.length=some cs∧∃ y,DataW.trod enc P W base sp held n' e cs=some y:=by
      refine ⟨(List.range len).map fun i=>(W.cells? base (a.add (i*s1.length)) s1.length).getD [],by simp,fun i cs hi=>?_⟩
      rw [List.getElem?_map,Option.map_eq_some_iff] at hi
      obtain ⟨k,hk,rfl⟩:=hi
      have hk':k=i∧i < len:=by
       have:=List.getElem?_eq_some_iff.1 hk
       obtain ⟨g1,g2⟩:=this
       simp at g1 g2
       omega
      obtain ⟨rfl,hlt⟩:=hk'
      obtain ⟨cs,g1,g2⟩:=hex k hlt
      rw [g1];exact ⟨rfl,g2⟩
     subst hcl
     refine ⟨.row he hpos (fun cs hm=>?_) (fun cs hm=>?_) hlc (Nat.le_trans hlc hcm) (fun i r cs v g1 g2=>?_),rfl⟩
     ·obtain ⟨i,hi⟩:=List.mem_iff_getElem?.1 hm
      obtain ⟨_,y,hy⟩:=hcs i cs hi
      exact (Job.of h1 hy).1
     ·obtain ⟨i,hi⟩:=List.mem_iff_getElem?.1 hm
      exact (cells_get (hcs i cs hi).1).1
     ·have:=(cells_get (hcs i cs g1).1).2 r v g2
      rwa [Addr.add_add] at this
   split at h
   ·rename_i s1 h1 h2
    split at h
    ·rename_i hc
     cases h
     exact key _ _ (.inl rfl) h1 hc.1 hc.2 rfl
    ·cases h
   ·rename_i s h1 h2
    split at h
    ·rename_i hc
     cases h
     exact key _ _ (.inr ⟨rfl,hc.2⟩) h1 hc.1 (by simp) rfl
    ·cases h
   ·cases h
  ·rename_i fs hu
   split at h
   ·rename_i s1 h1
    split at h
    ·rename_i hc
     cases h
     obtain ⟨xs,n',rfl,_,hcl,hxl,hxs⟩:=DataW.trod_struct hu hx
     have hlen:cs.length=ss.length:=hcl.trans hc
     have:=Job.fields (off:=0) (fun t ss cs x h1 h2=>Job.of h1 h2) h1 (fun f hf=>by
      obtain ⟨i,hi⟩:=List.mem_iff_getElem?.1 hf
      have hi':fs[i]?=some f:=by rwa [Array.getElem?_toList] at hi
      have:=hxs i f hi'
      have hlt:i < xs.length:=by rw [hxl];exact (Array.getElem?_eq_some_iff.1 hi').1
      exact ⟨_,this.trans (List.getElem?_eq_getElem hlt)⟩) (by omega)
     exact ⟨by simpa using this,hlen⟩
    ·cases h
   ·cases h
  ·cases h
end
/-- A value that is handed over. -/
def JobV (W:World) (sh:Shp) (v:Value):Prop:=∀ H μ,Rl W.heap.size μ H W→Hap H μ→∃ (H':Mem) (μ':Mp) (v':Value) (y:FV),Ext2 W H μ H' μ'∧VR μ' v' v∧FR (cx0 H') y v'∧has sh y=true∧∀ n,rgF n y
theorem JobV.one {W:World} {s:Shp} {v:Value} (h:Job W [s] [v]) (h1:s.cell1=true):JobV W s v:=fun H μ R hp=>by
 obtain ⟨H',μ',vs,ys,e,hv,hf,hs,hr⟩:=h H μ R hp
 rcases vs with _ | ⟨v',_ | ⟨_,_⟩⟩
 ·have:=hv.1;simp at this
 ·rcases ys with _ | ⟨y,_ | ⟨_,_⟩⟩
  ·have:=hf.1;simp at this
  ·refine ⟨H',μ',v',y,e,hv.2 0 _ _ rfl rfl,hf.2 0 _ _ rfl rfl,?_,hr y (List.mem_singleton.2 rfl)⟩
   simp only [hasL,Bool.and_true] at hs
   cases s<;>first | exact hs | cases h1
  ·have:=hf.1;simp at this
 ·have:=hv.1;simp at this
theorem JobV.agg {W:World} {ss:List Shp} {cs:Array Value} (h:Job W ss cs.toList):JobV W (.agg ss) (.agg cs):=fun H μ R hp=>by
 obtain ⟨H',μ',vs,ys,e,hv,hf,hs,hr⟩:=h H μ R hp
 refine ⟨H',μ',.agg vs.toArray,.agg ys,e,.agg (by simpa using hv.1) fun i x y hx hy=>?_,.agg (by simpa using hf.1) fun i x y hx hy=>?_,hs,fun n=>?_⟩
 ·exact hv.2 i x y (by simpa using hx) (by simpa using hy)
 ·exact hf.2 i x y hx (by simpa using hy)
 ·rcases n with _ | n
  ·exact trivial
  ·exact fun c hc=>hr c hc n
section
variable {P:Program} {W:World} {HH:Type} {enc:TypeId × Value→HH} {base:Nat} {sp:Nat→Bool} {held:Bool} {d:DataW HH} {ps:List MemPlace}
theorem JobV.of1 {m:Nat} {t:TypeId} {s:Shp} {v:Value} (h:shC P m t=some [s]) (h1:s.cell1=true) (hv:v.cells=#[v]) (hd:DataW.Trod enc P W base sp held t v d ps):JobV W s v:=by
 obtain ⟨n,hn⟩:=hd
 have:=(Job.of h hn).1
 rw [hv] at this
 exact .one this h1
theorem JobV.ofA {m:Nat} {t:TypeId} {ss:List Shp} {cs:Array Value} (h:shC P m t=some ss) (hd:DataW.Trod enc P W base sp held t (.agg cs) d ps):JobV W (.agg ss) (.agg cs):=by
 obtain ⟨n,hn⟩:=hd
 exact .agg (Job.of h hn).1
end
def hasAll:List Shp→List FV→Prop
 | [],[]=>True
 | s::ss,x::xs=>(has s x=true∧(∀ n,rgF n x)∧∀ n,wfF n x)∧hasAll ss xs
 | _,_=>False
theorem jobs_all {W:World}:∀ (js:List (Shp × Value)),(∀ p,p∈js→JobV W p.1 p.2)→∀ H μ,Rl W.heap.size μ H W→Hap H μ→∃ (H':Mem) (μ':Mp) (vs:List Value) (xs:List FV),Ext2 W H μ H' μ'∧VRs μ' vs (js.map (·.2))∧FRs (cx0 H') xs vs∧hasAll (js.map (·.1)) xs
 | [],_,H,μ,R,hp=>⟨H,μ,[],[],.refl R hp,⟨rfl,fun i x y h=>by simp at h⟩,.nil _,trivial⟩
 | p::js,h,H,μ,R,hp=>by
  obtain ⟨H1,μ1,v,y,e1,v1,f1,s1,r1⟩:=h p (List.mem_cons_self ..) H μ R hp
  obtain ⟨H2,μ2,vs,xs,e2,v2,f2,s2⟩:=jobs_all js (fun q hq=>h q (List.mem_cons_of_mem _ hq)) H1 μ1 e1.rl e1.hap
  refine ⟨H2,μ2,v::vs,y::xs,e1.trans e2,⟨by simp [v2.1],fun i a b ha hb=>?_⟩,.cons (f1.mono (adds_le e1.rl.wf e2.adds)) f2,⟨s1,r1,f1.wf⟩,s2⟩
  rcases i with _ | i
  ·simp at ha hb;subst ha;subst hb;exact v1.mono e2.ext
  ·simp at ha hb;exact v2.2 i a b ha (by simpa using hb)
/-- A law that answers true, of what is handed to it. -/
theorem job_calls {B:Base} {L:List (FuncId × Intr)} {f:FuncId} (hB:B.Ok) (hL:AllOk B.P L) {run:Lz→List FV→(FV→FV→Prop)→Prop} (h:SpecOk (B.env L) f ⟨false,run⟩) {W:World} (js:List (Shp × Value)) (hj:∀ p,p∈js→JobV W p.1 p.2)
  (hr:∀ xs,hasAll (js.map (·.1)) xs→run std xs fun r _=>r=.bool true):Calls B.P f (js.map (·.2)).toArray W (fun e w'=>e=.returned (.bool true)∧Below W.heap.size W w'):=by
 obtain ⟨H',μ',vs,xs,e,hv,hf,hs⟩:=jobs_all js hj M0 _ (Rl.m0 W) (fun i m h=>by cases h)
 exact spec_calls hB hL h (vs:=vs.toArray) e.rl e.hap (by simpa using hf) (by simpa [VRa] using hv) (hr xs hs)
end Go.Proofs.YtmndbhgbngkakaaDoor.G
