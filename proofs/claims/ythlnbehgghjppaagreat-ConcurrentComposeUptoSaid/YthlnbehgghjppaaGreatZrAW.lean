/- The step of the program: what the slots of Right give (a map -/
import Derived.Test.YthlnbehgghjppaaGreatZrAU
import Derived.Test.YthlnbehgghjppaaGreatZrAA
import Derived.Test.YthlnbehgghjppaaGreatZrAV
import Derived.Test.YthlnbehgghjppaaGreatZrAG
import Derived.Test.YthlnbehgghjppaaGreatZrAO
import Derived.Test.YthlnbehgghjppaaGreatZrAS
import Derived.Test.YthlnbehgghjppaaGreatZrAN
set_option linter.unusedVariables false
set_option linter.unusedSimpArgs false
section
set_option maxRecDepth 100000
set_option maxHeartbeats 4000000
open Go Go.Proofs Tryz
namespace Go.Abs
def nM (c:Part)(s:Slot):Int:=c.h[s.node.toNat]?.getD 0
def T5 (c:Part)(vs:Xa0)(F:FM)(s:Slot):FM:=L6 F (nM c s) s.P (dH s.C vs)
def FA (c:Part)(vs:Xa0)(l:List Slot):FM:=l.foldl (T5 c vs) λ_ _=>none
theorem SO (c:Part)(vs:Xa0)(l:List Slot)(s:Slot):FA c vs (l++[s])=L6 (FA c vs l) (nM c s) s.P (dH s.C vs):=by unfold FA;rw [GU];rfl
theorem VV (c:Part)(vs:Xa0)(u v x:Int):∀ (l:List Slot) (F:FM),l.foldl (T5 c vs) F u v=some x->(∃ s∈l,nM c s=u/\s.P=v/\dH s.C vs=x)\/F u v=some x
 | [],F,h=>.inr h
 | s :: l,F,h=>by
  rcases VV c vs u v x l _ h with ⟨s',hs',e⟩|h'
  .exact .inl ⟨s',cX _ hs',e⟩
  .unfold T5 L6 at h';split at h'
   .rename_i he;exact .inl ⟨s,eT ..,he.1.symm,he.2.symm,by simpa using h'⟩
   .exact .inr h'
theorem GW {c:Part}{vs:Xa0}{l:List Slot}{u v x:Int}(h:FA c vs l u v=some x):∃ s∈l,nM c s=u/\s.P=v/\dH s.C vs=x:=by
 rcases VV c vs u v x l _ h with h|h
 .exact h
 .cases h
theorem X3 (c:Part)(vs:Xa0)(u v:Int):∀ (l:List Slot) (F:FM),((∃ s∈l,nM c s=u/\s.P=v)\/(F u v).isSome=true)->(l.foldl (T5 c vs) F u v).isSome=true
 | [],F,h=>h.elim (λ⟨s,hs,_⟩=>by cases hs) id
 | s :: l,F,h=>X3 c vs u v l _ (by
   by_cases he:nM c s=u/\s.P=v
   .right;unfold T5 L6;rw [if_pos ⟨he.1.symm,he.2.symm⟩];rfl
   .rcases h with ⟨s',hs',e⟩|h
    .rcases aS.1 hs' with rfl|h2
     .exact absurd e he
     .exact .inl ⟨s',h2,e⟩
    .right;unfold T5 L6;split
     .rfl
     .exact h)
def EqK (c:Part)(vs:Xa0)(l:List Slot):Prop:=∀ s∈l,∀ s'∈l,nM c s=nM c s'->s.P=s'.P->dH s.C vs=dH s'.C vs
theorem VU {c:Part}{vs:Xa0}{l:List Slot}(h:EqK c vs l){s:Slot}(d:s∈l):FA c vs l (nM c s) s.P=some (dH s.C vs):=by
 have g:=X3 c vs (nM c s) s.P l (λ_ _=>none) (.inl ⟨s,d,rfl,rfl⟩);obtain ⟨x,f⟩:=lT.1 g;have a:FA c vs l (nM c s) s.P=some x:=f;obtain ⟨e,b,k,j,i⟩:=GW a;rw [a,<- i,h e b s d k j]
theorem VX {c:Part}{vs:Xa0}{l:List Slot}(h:EqK c vs l){s:Slot}(m:∀ x,FA c vs l (nM c s) s.P=some x->x=dH s.C vs):EqK c vs (l++[s]):=by
 have d:∀ j∈l,nM c j=nM c s->j.P=s.P->dH j.C vs=dH s.C vs:=λj k i g=>by
  have:=VU h k;rw [i,g] at this;exact m _ this
 intro a f b e i g;rw [bE,bU] at f e;rcases f with f|rfl<;>rcases e with e|rfl
 .exact h a f b e i g
 .exact d a f i g
 .exact (d b e i.symm g.symm).symm
 .rfl
theorem qE {c:Part}{s:Slot}:fU c s=(nM c s).toNat:=rfl
theorem Vy {c:Part}{vs:Xa0}{l:List Slot}{i:Nat}(e:i<l.length){x:Int}(h:FA c vs (l.take i) (nM c l[i]) l[i].P=some x)(m:x≠dH l[i].C vs):zA c vs l=true:=by
 obtain ⟨o,a,j,g,f⟩:=GW h;obtain ⟨k,n,rfl⟩:=aO a;rw [List.getElem_take] at j g f;have d:k<i:=by simp at n;omega
 have b:k<l.length:=bZ;rw [yB,bF];refine ⟨i,by simpa using e,?_⟩;rw [bF];refine ⟨k,by simpa using d,?_⟩;unfold wN ER;simp only [aA b,aA e,qE,j,g,f];simp [m]
theorem Rv {c:Part}{vs:Xa0}{l:List Slot}(g:∀ s∈l,0<=nM c s)(h:EqK c vs l):zA c vs l=false:=by
 rw [yB,aW];intro a;rw [bF] at a;obtain ⟨i,d,a⟩:=a;rw [bF] at a;obtain ⟨k,j,a⟩:=a;rw [bY] at d j;have b:k<l.length:=bZ;unfold wN ER at a;simp only [aA b,aA d,qE,aL,decide_eq_true_eq] at a;obtain ⟨p,n,m⟩:=a;have r:=g _ (aC b);have q:=g _ (aC d);have o:(nM c l[k]).toNat=(nM c l[i]).toNat:=of_decide_eq_true p;have f:l[k].P=l[i].P:=by simpa using n
 have e:dH l[k].C vs≠dH l[i].C vs:=by simpa using m
 exact e (h _ (aC b) _ (aC d) bZ f)
/-! ### the values that are set -/
def AB (F:FM)(dn:Int->Int->Bool)(vals:Yb):Yb :=
 (List.range vals.length).map λ(n:Nat)=>(List.range (vals[n]?.getD []).length).map λ(a:Nat)=>if dn n a=true then (F n a).getD 0 else (vals[n]?.getD [])[a]?.getD 0
theorem uG (F:FM)(dn:Int->Int->Bool)(vals:Yb):(AB F dn vals).length=vals.length:=by simp [AB]
theorem sB (F:FM)(dn:Int->Int->Bool)(vals:Yb)(n:Nat):((AB F dn vals)[n]?.getD []).length=(vals[n]?.getD []).length:=by
 unfold AB;by_cases a:n<vals.length
 .simp [aP,mW a]
 .rw [b5 (by simp;omega),b5 bZ]
theorem AA (F:FM)(dn:Int->Int->Bool)(vals:Yb){n a:Nat}(b:n<vals.length)(c:a<(vals[n]?.getD []).length):((AB F dn vals)[n]?.getD [])[a]?=some (if dn n a=true then (F n a).getD 0 else (vals[n]?.getD [])[a]?.getD 0):=by
 unfold AB;rw [aP,mW b,eV,aD,aP,mW c,eV]
theorem Hp {x y:Yb}(i:x.length=y.length)(h:∀ n:Nat,(x[n]?.getD []).length=(y[n]?.getD []).length)(g:∀ n a:Nat,n<y.length->a<(y[n]?.getD []).length->(x[n]?.getD [])[a]?=(y[n]?.getD [])[a]?):x=y:=by
 apply iE i;intro n j c;have d:x[n]?.getD []=x[n]:=by rw [aA j];rfl
 have b:y[n]?.getD []=y[n]:=by rw [aA c];rfl
 have e:=h n;rw [d,b] at e;apply f9;intro a;by_cases f:a<y[n].length
 .have:=g n a c (by rw [b];exact f);rwa [d,b] at this
 .rw [b5 bZ,b5 bZ]
theorem To (F:FM)(vals:Yb){dn:Int->Int->Bool}(h:∀ n a:Nat,n<vals.length->a<(vals[n]?.getD []).length->dn n a=false):AB F dn vals=vals:=by
 refine Hp (uG _ _ _) (sB _ _ _) λn a c b=>?_;rw [AA _ _ _ c b,if_neg (by rw [h n a c b];simp),aA b];rfl
theorem Is {vals:Yb}{u:Nat}(a:u<vals.length)(r:Xa0)(n:Nat):(vals.set u r)[n]?.getD []=if n=u then r else vals[n]?.getD []:=by
 rw [eB];split
 .rename_i h;subst h;simp [a]
 .rename_i h;rw [if_neg (λe=>h e.symm)]
theorem Tm (F:FM)(vals:Yb){dn dn':Int->Int->Bool}{u a:Nat}{x:Int}(i:u<vals.length)(k:a<(vals[u]?.getD []).length)(g:F u a=some x)(j:∀ n b:Nat,n<vals.length->b<(vals[n]?.getD []).length->dn' n b=(dn n b||(decide (n=u)&&decide (b=a)))) :
  (AB F dn vals).set u (((AB F dn vals)[u]?.getD []).set a x)=AB F dn' vals:=by
 have c:u<(AB F dn vals).length:=by rw [uG];exact i
 refine Hp (by rw [iU,uG,uG]) (λn=>?_) λn b d f=>?_
 .rw [Is c,sB];split
  .rename_i h;subst h;rw [iU,sB]
  .rw [sB]
 .rw [uG] at d;rw [sB] at f;rw [Is c,AA _ _ _ d f,j n b d f];split
  .rename_i h;subst h;rw [eB];by_cases e:a=b
   .subst e;rw [if_pos rfl,if_pos (by rw [sB];exact k),if_pos eG,g];rfl
   .rw [if_neg e,AA _ _ _ d f];congr 1;rw [show decide (b=a)=false by simp;omega,Bool.and_false,wX]
  .rename_i h;rw [AA _ _ _ d f];congr 1;rw [show decide (n=u)=false by simp;omega,Gd,wX]
theorem OF {c:Part}{vs:Xa0}(vals:Yb):∀ (i:Nat) (l:List Slot),l.length=i->(∀ s∈l,0<=nM c s/\fU c s<vals.length/\0<=s.P/\s.P<(vals[fU c s]?.getD []).length) ->
  ∀ n a:Nat,n<vals.length->a<(vals[n]?.getD []).length->((wG c vs l vals)[n]?.getD [])[a]?=some ((FA c vs l n a).getD ((vals[n]?.getD [])[a]?.getD 0))
 | 0,l,hl,hp,n,a,hn,ha=>by
  have:l=[]:=bQ hl;subst this;show (vals[n]?.getD [])[a]?=_;rw [aA ha];rfl
 | i+1,l,hl,hp,n,a,hn,ha=>by
  obtain ⟨l',s,rfl⟩:∃ l' s,l=l'++[s]:=⟨l.dropLast,l.getLast (by intro e;rw [e] at hl;cases hl),(List.dropLast_concat_getLast _).symm⟩;have ih:=OF (c:=c) (vs:=vs) vals i l' (by simp at hl;exact hl) (λs' hs'=>hp s' (List.mem_append_left _ hs'));obtain ⟨p1,p2,p3,p4⟩:=hp s eG;obtain ⟨q1,q2⟩:=uF c vs l' vals;rw [KH,SO,Is bZ];unfold L6;split
  .rename_i h;rw [eB];by_cases hsa:s.P.toNat=a
   .rw [if_pos hsa,if_pos (by rw [q2];omega),if_pos ⟨by rw [h,qE];omega,bZ⟩];rfl
   .rw [if_neg hsa,if_neg bZ,<- h];exact ih n a hn ha
  .rename_i h;rw [if_neg (by rw [qE] at h;omega)];exact ih n a hn ha
theorem Tn {c:Part}{vs:Xa0}{vals:Yb}{l:List Slot}(g:∀ s∈l,0<=nM c s/\fU c s<vals.length/\0<=s.P/\s.P<(vals[fU c s]?.getD []).length)
  {dn:Int->Int->Bool} (h:∀ n a:Nat,n<vals.length->a<(vals[n]?.getD []).length->dn n a=(FA c vs l n a).isSome):AB (FA c vs l) dn vals=wG c vs l vals:=by
 obtain ⟨f,e⟩:=uF c vs l vals;refine Hp (by rw [uG,f]) (λn=>by rw [sB,e]) λn a b d=>?_;rw [f] at b;rw [e] at d;rw [AA _ _ _ b d,OF vals _ l rfl g n a b d,h n a b d];cases FA c vs l n a<;>simp
@[go_sem] theorem Zj:rQ (Value.map none)=.junk:=rfl
@[go_sem] theorem acE:j7 (.const (Value.map none))=false:=rfl
theorem UO:MapT prog 269 273 3 :=
 WJ underlying269 underlying3 underlying273 ⟨rfl,rfl,rfl⟩ ⟨rfl,rfl,rfl⟩ (by kernel_rfl) (by kernel_rfl) (by kernel_rfl) ⟨prog.types.size - 1,by have:0<prog.types.size:=of_decide_eq_true (by kernel_rfl);omega⟩
  (Maps.Keyed.of_law (deep_law_laid (m:=2) (by kernel_rfl) bZ (of_decide_eq_true (by kernel_rfl)) (by kernel_rfl) (by kernel_rfl))) (λw=>by kernel_rfl)
def agY (co:Part)(vs:Xa0)(l:List Slot)(G:AHeap)(d:D)(H':AHeap)(g:MS):Prop :=
 (∀ j,j<G.next->H'.get j=G.get j)/\G.next<=H'.next /\
  ((zA co vs l=true/\∃ q,d=.tup [q,dI 11])\/(zA co vs l=false/\∃ b k,d=.tup [.cst (.map (some b)),dI 0]/\g=.mp b k (FA co vs l)))
theorem Js (t:Types)(r:Rule)(hR:RuleV t r)(m:Mat)(h:Host)(x0:Host)(tr p:Part)(hP:PutOk t r x0 p)(O:m.vars.length=r.left.vars.toNat)(N:Sm m.vars)(a b0 V na nb nV:Nat)(G:AHeap) :
  GCalls prog 273 3 241 [.agg (stpC r m h (.own a na) (.own b0 nb) (.own V nV) tr p)] G (agY p m.vars r.right.q G):=by
 obtain ⟨l,hl⟩:=fH (r.right.q);have Q:=hR.q;have W:=hR.bL;have f:=hP.spot;have u:=hP.P;have a6:=hP.W;have a8:=hP.bL;rw [<- hl] at Q W f u ⊢;refine AR func241 rfl rfl (by exact aE rfl) ?_;refine dY λK0 k0=>?_;refine iC (c:=⟨λt=>t==6||t==9,λr=>match r with|8=>[(0,10),(1,10),(2,10),(3,10),(4,10),(5,10),(6,10),(7,10),(8,10)]|_=>[]⟩) Tz.mixed (by kernel_rfl) ?_;simp [go_sem,seval,stpC];repeat first|intro _|refine ⟨gX,?_⟩
 refine k0 _ _ _ ?_;clear k0 K0;refine dY λE q=>?_;refine WpG.region (OpsG.make UO rfl rfl rfl λb=>?_);refine OpsG.all (md:=λ_=>false) rfl λR n=>?_;simp [go_sem,seval];refine n _ _ (q _ _ _ ?_);clear n R q E;refine dY λK3 k3=>?_;refine dY λz d=>?_;refine iC (c:=⟨λt=>t==6||t==9,λr=>match r with|8=>[(0,10),(1,10),(2,10),(3,10),(4,10),(5,10),(6,10),(7,10),(8,10)]|_=>[]⟩) Tz.mixed (by kernel_rfl) ?_;simp [go_sem,seval];repeat first|intro _|refine ⟨gX,?_⟩
 refine d _ _ _ ?_;clear d z;refine WpG.block ?_;obtain ⟨I,hI⟩:∃ I:Nat->MS->d7->AHeap->Prop,∀ i g e H,I i g e H↔(e 1=.adr (stpC r m h (.own a na) (.own b0 nb) (.own V nV) tr p)/\e 4=.cst (.map (some b))/\e 16=.list (l.map Slot.c)/\e 17=dI l.length/\e 18=dI i/\i<=l.length/\(∃ k,k<=i/\g=.mp b k (FA p m.vars (l.take i)))/\EqK p m.vars (l.take i)/\(∀ j,j<G.next->H.get j=G.get j)/\G.next<=H.next):=⟨_,λ_ _ _ _=>Iff.rfl⟩;refine WpG.loop I (λi=>l.length - i) 0 ((hI _ _ _ _).2 ⟨by simp [go_sem,stpC,dLI],by simp [go_sem],by simp [go_sem,hl],by simp [go_sem,hl],by simp [go_sem],bZ,⟨0,bZ,by simp [FA]⟩,by intro s hs;simp at hs,by intro j hj;simp [go_sem],by simp [go_sem]⟩) λi g e H a3=>?_;obtain ⟨q1,q4,K,J,B,hi,⟨k,hk,rfl⟩,hE,hG,a0⟩:=(hI _ _ _ _).1 a3;refine dY λE q=>?_;refine iC (c:=⟨λt=>t==6||t==9,λr=>match r with|8=>[(0,10),(1,10),(2,10),(3,10),(4,10),(5,10),(6,10),(7,10),(8,10)]|_=>[]⟩) Tz.mixed (by kernel_rfl) ?_;simp [go_sem,seval,J,B];repeat first|intro _|refine ⟨gX,?_⟩
 refine q _ _ _ ?_;clear q E;refine dY λE q=>?_;refine WpG.cond (t:=decide (i<l.length)) (by simp [go_sem]) (λh3=>?_) (λh3=>?_)
 .refine WpG.skip ?_;simp only [go_sem];refine q _ _ _ ?_;clear q E;have w:i<l.length:=of_decide_eq_true h3;obtain ⟨x,F⟩:=fH (l[i]);have C:x∈l:=F ▸ aC w;obtain ⟨⟨n1,n2⟩,⟨a1,a2⟩,hT⟩:=Q x C;obtain ⟨s1,s2,s3⟩:=f x C;obtain ⟨t1,t2⟩:=u x C;have S:x.node.toNat<p.h.length:=bZ;have U:nM p x=p.h[x.node.toNat]:=by unfold nM;rw [aA S];rfl
  have a7:=G5 (vs:=m.vars) (by rw [O];exact hT) N;have Y:Ed (nM p x):=by rw [qE] at s2;exact ⟨by unfold nM;omega,by unfold nM at *;omega⟩
  have X:Ed x.P:=⟨bZ,by have:=uS hR.vf (x0.j.h[fU p x]?.getD 0);omega⟩;have a4:Ed (dH x.C m.vars):=⟨bZ,bZ⟩;obtain ⟨v,P⟩:=fH (dH x.C m.vars);refine dY λE q=>?_;refine WpG.block ?_;refine dY λz d=>?_;refine iC (c:=⟨λt=>t==6||t==9,λr=>match r with|8=>[(0,10),(1,10),(2,10),(3,10),(4,10),(5,10),(6,10),(7,10),(8,10)]|_=>[]⟩) Tz.mixed (by kernel_rfl) ?_;simp [go_sem,seval,K,B,aA w,<- F,Slot.c];repeat first|intro _|refine ⟨gX,?_⟩
  refine d _ _ _ ?_;clear d z;refine dY λz d=>?_;refine iC (c:=⟨λt=>t==6||t==9,λr=>match r with|8=>[(0,10),(1,10),(2,10),(3,10),(4,10),(5,10),(6,10),(7,10),(8,10)]|_=>[]⟩) Tz.mixed (by kernel_rfl) ?_;simp [go_sem,seval,q1,stpC,Slot.c];repeat first|intro _|refine ⟨gX,?_⟩
  refine aB (by have hq:=oA x.C m.vars (by rw [O];exact hT) N;rw [<- P] at hq;unfold Term.c dLI at hq;exact hq) (by first|rfl|(simp [go_sem];done)) ?_;simp [go_sem,seval];repeat first|intro _|refine ⟨gX,?_⟩
  refine d _ _ _ ?_;clear d z;refine dY λz d=>?_;refine dY λZ A=>?_;refine iC (c:=⟨λt=>t==6||t==9,λr=>match r with|8=>[(0,10),(1,10),(2,10),(3,10),(4,10),(5,10),(6,10),(7,10),(8,10)]|_=>[]⟩) Tz.mixed (by kernel_rfl) ?_;simp [go_sem,seval];refine A _ _ _ ?_;clear A Z;refine WpG.cond (t:=false) (by simp [go_sem]) (λh=>by cases h) (λ_=>WpG.skip ?_);simp only [go_sem];refine d _ _ _ ?_;clear d z;refine dY λz d=>?_;refine iC (c:=⟨λt=>t==6||t==9,λr=>match r with|8=>[(0,10),(1,10),(2,10),(3,10),(4,10),(5,10),(6,10),(7,10),(8,10)]|_=>[]⟩) Tz.mixed (by kernel_rfl) ?_;simp [go_sem,seval,q1,stpC,Slot.c,aA S,<- U];repeat first|intro _|refine ⟨gX,?_⟩
  refine d _ _ _ ?_;clear d z;refine dY λz d=>?_;refine dY λZ A=>?_;refine WpG.region ?_;refine OpsG.take (md:=λt=>t==6||t==9) 2 rfl λR n=>?_;simp [go_sem,seval,q4];repeat first|intro _|refine ⟨gX,?_⟩
  refine n _ _ ?_;clear n R;refine T9 (T:=269) UO rfl rfl rfl rfl (by simp [go_sem]) (by simp [go_sem]) Y X ?_;refine OpsG.all (md:=λt=>t==6||t==9) rfl λR n=>?_;simp [go_sem,seval];repeat first|intro _|refine ⟨gX,?_⟩
  refine n _ _ (A _ _ _ ?_);clear n R A Z;obtain ⟨o,ho⟩:=fH (FA p m.vars (l.take i) (nM p x) x.P);refine dY λZ A=>?_;refine iC (c:=⟨λt=>t==6||t==9,λr=>match r with|8=>[(0,10),(1,10),(2,10),(3,10),(4,10),(5,10),(6,10),(7,10),(8,10)]|_=>[]⟩) Tz.mixed (by kernel_rfl) ?_;simp [go_sem,seval,<- ho];repeat first|intro _|refine ⟨gX,?_⟩
  refine A _ _ _ ?_;clear A Z;refine WpG.cond (t:=o.isSome&&o.getD 0 != v) (by simp [go_sem]) (λD=>?_) (λD=>?_)
  .refine dY λK5 L=>?_;refine iC (c:=⟨λt=>t==6||t==9,λr=>match r with|8=>[(0,10),(1,10),(2,10),(3,10),(4,10),(5,10),(6,10),(7,10),(8,10)]|_=>[]⟩) Tz.mixed (by kernel_rfl) ?_;simp [go_sem,seval];refine L _ _ _ ?_;clear L K5;refine WpG.ret ?_;simp [go_sem,Ta];refine ⟨λj hj=>?_,?_,.inl ⟨?_,_,rfl⟩⟩
   .have fr1:=bP (bZ:j<H.next);simp [go_sem,fr1];exact hG j hj
   .simp [go_sem];omega
   .rw [aL] at D;obtain ⟨y,M⟩:=lT.1 D.1;refine Vy w (x:=y) (by rw [<- F,<- ho,M]) (λe=>?_);have h2:=D.2;rw [M,<- F,<- P] at *;simp [e] at h2
  .refine WpG.skip ?_;simp only [go_sem];refine d _ _ _ ?_;clear d z;refine WpG.region ?_;refine OpsG.take (md:=λt=>t==6||t==9) 3 rfl λR n=>?_;simp [go_sem,seval,q4];repeat first|intro _|refine ⟨gX,?_⟩
   refine n _ _ ?_;clear n R;refine OpsG.store (T:=269) (c:=v) UO rfl rfl rfl rfl (by simp [go_sem]) (by simp [go_sem]) (by simp [go_sem]) Y X (P ▸ a4) bZ ?_;refine OpsG.all (md:=λt=>t==6||t==9) rfl λR n=>?_;simp [go_sem,seval];refine n _ _ ?_;clear n R;simp only [go_sem];refine q _ _ _ ?_;clear q E;refine iC (c:=⟨λt=>t==6||t==9,λr=>match r with|8=>[(0,10),(1,10),(2,10),(3,10),(4,10),(5,10),(6,10),(7,10),(8,10)]|_=>[]⟩) Tz.mixed (by kernel_rfl) ?_;simp [go_sem,seval,B];repeat first|intro _|refine ⟨gX,?_⟩
   refine ⟨i+1,bZ,(hI _ _ _ _).2 ⟨by simp [go_sem,q1],by simp [go_sem,q4],by simp [go_sem,K],by simp [go_sem,J],by simp [go_sem],bZ,⟨k+1,bZ,by rw [aF w,SO,<- F,P]⟩,?_,λj hj=>?_,by simp [go_sem];omega⟩⟩
   .rw [aF w,<- F];refine VX hE λy M=>?_;rw [<- ho] at M;rw [M] at D;simp at D;rw [D,P]
   .have fr1:=bP (bZ:j<H.next);simp [go_sem,fr1];exact hG j hj
 .refine WpG.exit ?_;simp [go_sem];refine k3 _ _ _ ?_;have a5:i=l.length:=by have:=of_decide_eq_false h3;omega
  rw [aH bZ] at hE ⊢;refine dY λK5 L=>?_;refine iC (c:=⟨λt=>t==6||t==9,λr=>match r with|8=>[(0,10),(1,10),(2,10),(3,10),(4,10),(5,10),(6,10),(7,10),(8,10)]|_=>[]⟩) Tz.mixed (by kernel_rfl) ?_;simp [go_sem,seval,q4];refine L _ _ _ ?_;clear L K5;refine WpG.ret ?_;simp [go_sem,Ta];refine ⟨hG,a0,.inr ⟨Rv (λs hs=>(f s hs).1) hE,b,k,by simp [go_sem],rfl⟩⟩
theorem Vk {c:Part}{vs:Xa0}{l:List Slot}(h:zA c vs l=false):EqK c vs l:=by
 rw [yB] at h;have a:∀ (p q:Nat) (d:p<q) (b:q<l.length),nM c l[p]=nM c l[q]->l[p].P=l[q].P->dH l[p].C vs=dH l[q].C vs:=λp q d b f e=>by
  refine bH λn=>?_;have:((List.range l.length).any λi=>(List.range i).any λk=>wN c vs l i k)=true:=by
   rw [bF];refine ⟨q,by simpa using b,?_⟩;rw [bF];refine ⟨p,by simpa using d,?_⟩;unfold wN ER;simp only [aA (bZ:p<l.length),aA b,qE,f,e];simp [n]
  rw [h] at this;cases this
 intro s j o g f e;obtain ⟨p,m,rfl⟩:=aO j;obtain ⟨q,b,rfl⟩:=aO g;rcases Nat.lt_trichotomy p q with h1|h1|h1
 .exact a p q h1 b f e
 .subst h1;rfl
 .exact (a q p h1 m f.symm e.symm).symm
theorem SX (t:Types)(ht:t.ok)(r:Rule)(hR:RuleV t r)(m:Mat)(h o:Host)(tr p:Part)(hP:PutOk t r o p)(d2:m.vars.length=r.left.vars.toNat)(d0:Sm m.vars)(G:AHeap)(s a b0 V:Nat)(S:List Nat)
  (hs:G.get s=some ⟨52,38,[stpC r m h (.own a o.j.h.length) (.own b0 o.j.i.length) (.own V o.k.length) tr p],false⟩) (c5:HH G 0 a b0 V S o) (d6:∀ j∈a :: b0 :: V :: S,j≠s) (d8:s<G.next) (Q:D->AHeap->Prop)
  (a2:∀ H',wH t o.j p m.vars r.right.q≠0->(∀ j,j<G.next->j∉a :: b0 :: V :: S->H'.get j=G.get j)->G.next<=H'.next->Q (dI (wH t o.j p m.vars r.right.q)) H')
  (hQ:∀ H',wH t o.j p m.vars r.right.q=0->HH H' 0 a b0 V S ⟨o.j,wG p m.vars r.right.q o.k⟩->(∀ j,j<G.next->j∉a :: b0 :: V :: S->H'.get j=G.get j)->G.next<=H'.next->Q (dI 0) H') :
  ACalls prog 156 [t.d,.ptr s 1 0 0] G Q:=by
 obtain ⟨l,hl⟩:=fH (r.right.q);have hA:=Js t r hR m h o tr p hP d2 d0 a b0 V o.j.h.length o.j.i.length o.k.length G;have a3:=hR.q;have A:=hP.spot;have L:=hP.P;have g3:=hP.bL;rw [<- hl] at a3 A L a2 hQ hA;refine Ki (P:=prog) (K:=273) (E:=3) (Q:=λd H' _=>Q d H') ?_ (λ_ _ _ h=>h);refine AR func156 rfl rfl (by exact aE rfl) ?_;refine dY λO B=>?_;refine iC (c:=⟨λt=>t==7,λ_=>[]⟩) Tz.mixed (by kernel_rfl) ?_;simp [go_sem,seval];refine B _ _ _ ?_;clear B O;refine dY λO B=>?_;refine WpG.region ?_;refine OpsG.take (md:=λt=>t==7) 3 rfl λR J=>?_;simp [go_sem,seval,hs,stpC];repeat first|intro _|refine ⟨gX,?_⟩
 refine J _ _ ?_;clear J R;refine OpsG.call (f:=241) (args:=[.agg (stpC r m h (.own a o.j.h.length) (.own b0 o.j.i.length) (.own V o.k.length) tr p)]) (by simp [go_sem,iO,stpC]) rfl rfl hA λd H1 g1 hq=>?_;obtain ⟨b5,a9,b3⟩:=hq;rcases b3 with ⟨a1,q,rfl⟩|⟨a1,b,k,rfl,rfl⟩
 .refine OpsG.all (md:=λt=>t==7) rfl λR J=>?_;simp [go_sem,seval];repeat first|intro _|refine ⟨gX,?_⟩
  refine J _ _ (B _ _ _ ?_);clear J R B O;refine dY λK2 k2=>?_;refine dY λK4 U=>?_;refine iC (c:=⟨λt=>t==7,λ_=>[]⟩) Tz.mixed (by kernel_rfl) ?_;simp [go_sem,seval];refine U _ _ _ ?_;clear U K4;refine WpG.cond (t:=true) (by simp [go_sem]) (λ_=>?_) (λhc=>by cases hc);refine dY λK5 k5=>?_;refine iC (c:=⟨λt=>t==7,λ_=>[]⟩) Tz.mixed (by kernel_rfl) ?_;simp [go_sem,seval];refine k5 _ _ _ ?_;clear k5 K5;refine WpG.ret ?_;simp [go_sem,Ta];have hE:wH t o.j p m.vars l=11:=by unfold wH;rw [if_pos a1]
  rw [hE] at a2;exact a2 _ (by decide) (λj Z _=>b5 j Z) a9
 .refine OpsG.all (md:=λt=>t==7) rfl λR J=>?_;simp [go_sem,seval];repeat first|intro _|refine ⟨gX,?_⟩
  refine J _ _ (B _ _ _ ?_);clear J R B O;refine dY λK2 k2=>?_;refine dY λK4 U=>?_;refine iC (c:=⟨λt=>t==7,λ_=>[]⟩) Tz.mixed (by kernel_rfl) ?_;simp [go_sem,seval];refine U _ _ _ ?_;clear U K4;refine WpG.cond (t:=false) (by simp [go_sem]) (λhc=>by cases hc) (λ_=>WpG.skip ?_);simp only [go_sem];refine k2 _ _ _ ?_;clear k2 K2;have a5:wH t o.j p m.vars l=if l.any (AD t o.j p m.vars)=true then 6 else 0:=by unfold wH;rw [if_neg (by rw [a1];simp)]
  refine dY λK3 k3=>?_;refine dY λK4 U=>?_;refine WpG.region ?_;refine OpsG.take (md:=λt=>t==7) 1 rfl λR J=>?_;simp [go_sem,seval];refine J _ _ ?_;clear J R;refine OpsG.range (T:=269) UO rfl rfl rfl rfl (by simp [go_sem]) λrr wM=>?_;refine OpsG.nil (U _ _ _ ?_);clear U K4;have N:∀ x∈l,Ed (nM p x)/\Ed x.P:=λx M=>by
   obtain ⟨s1,s2,s3⟩:=A x M;obtain ⟨t1,t2⟩:=L x M;have:=uS hR.vf (o.j.h[fU p x]?.getD 0);have h0:=(a3 x M).2.1.1;rw [qE] at s2;exact ⟨⟨by unfold nM;omega,by unfold nM at *;omega⟩,bZ,bZ⟩
  refine WpG.block ?_;obtain ⟨F,hF⟩:=fH (FA p m.vars l);rw [<- hF];obtain ⟨I,hI⟩:∃ I:Nat->MS->d7->AHeap->Prop,∀ i g e H,I i g e H↔(∃ z c9,g=.rg b rr F z i c9/\e 1=.ptr s 1 0 0/\e 2=.adr t.c/\e 22=.cst (FK rr) /\
   HH H 0 a b0 V S ⟨o.j,AB F (λu v=>(F u v).isSome&&!z u v) o.k⟩/\(∀ x∈l,z (nM p x) x.P=false->AD t o.j p m.vars x=false)/\(∀ j,j<G.next->j∉a :: b0 :: V :: S->H.get j=G.get j)/\G.next<=H.next):=⟨_,λ_ _ _ _=>Iff.rfl⟩
  refine WpG.loop I (λi=>i) wM ((hI _ _ _ _).2 ⟨_,_,rfl,by simp [go_sem],by simp [go_sem],by simp [go_sem],?_,?_,λj Z _=>b5 j Z,a9⟩) λi g e H e7=>?_
  .rw [To]
   .exact c5.same a9 (λj Z=>b5 j (c5.ac j Z).2)
   .intro n v _ _;cases F n v<;>rfl
  .intro x M hf;have:=VU (c:=p) (vs:=m.vars) (l:=l) (s:=x) (Vk a1) M;rw [<- hF] at this;rw [this] at hf;cases hf
  obtain ⟨z,c9,rfl,q1,q2,a6,hh,hO,hG,e0⟩:=(hI _ _ _ _).1 e7;refine dY λO B=>?_;refine WpG.region ?_;refine OpsG.next UO rfl rfl rfl (by simp [go_sem,a6]) (λhd=>?_) (λu v c i' hu hv f8 b6 e5=>?_)
  .refine OpsG.all (md:=λt=>t==7) rfl λR J=>?_;simp [go_sem,seval];refine J _ _ (B _ _ _ ?_);clear J R B O;refine dY λO B=>?_;refine WpG.cond (t:=false) (by simp [go_sem]) (λhc=>by cases hc) (λ_=>WpG.exit ?_);simp [go_sem];refine k3 _ _ _ ?_;refine dY λK5 k5=>?_;refine iC (c:=⟨λt=>t==7,λ_=>[]⟩) Tz.mixed (by kernel_rfl) ?_;simp [go_sem,seval];refine k5 _ _ _ ?_;clear k5 K5;refine WpG.ret ?_;simp [go_sem,Ta];have c8:l.any (AD t o.j p m.vars)=false:=by
    rw [aW];intro hT;obtain ⟨x,M,hT⟩:=bF.1 hT;rw [hO x M (hd _ _ (N x M).1 (N x M).2)] at hT;cases hT
   rw [if_neg (by rw [c8];simp)] at a5;have hV:=Tn (c:=p) (vs:=m.vars) (vals:=o.k) (l:=l) (λx M=>⟨(A x M).1,(A x M).2.1,(a3 x M).2.1.1,(L x M).1⟩) (dn:=λu v=>(F u v).isSome&&!z u v) (λn v _ _=>by
    rw [<- hF];cases f2:F n v with
    | none=>rfl
    | some y =>
     obtain ⟨x,M,e1,e2,_⟩:=GW (c:=p) (vs:=m.vars) (l:=l) (by rw [<- hF];exact f2);have:=hd _ _ (N x M).1 (N x M).2;rw [e1,e2] at this;simp [this])
   rw [<- hF] at hV;rw [hV] at hh;exact hQ _ a5 hh hG e0
  .refine OpsG.all (md:=λt=>t==7) rfl λR J=>?_;simp [go_sem,seval];refine J _ _ (B _ _ _ ?_);clear J R B O;refine dY λO B=>?_;refine WpG.cond (t:=true) (by simp [go_sem]) (λ_=>WpG.skip ?_) (λhc=>by cases hc);simp only [go_sem];refine B _ _ _ ?_;clear B O;refine WpG.block ?_;refine dY λO B=>?_;refine WpG.region ?_;refine OpsG.entry rfl rfl rfl (by simp [go_sem,a6]) ?_;refine OpsG.all (md:=λt=>t==7) rfl λR J=>?_;simp [go_sem,seval];repeat first|intro _|refine ⟨gX,?_⟩
   refine J _ _ (B _ _ _ ?_);clear J R B O;obtain ⟨x,W,e1,e2,e3⟩:=GW (c:=p) (vs:=m.vars) (l:=l) (by rw [<- hF];exact b6);obtain ⟨s1,s2,s3⟩:=A x W;obtain ⟨t1,t2⟩:=L x W;have a0:=(a3 x W).2.1.1;obtain ⟨n,hn⟩:=fH (fU p x);rw [<- hn] at s2 s3 t1 t2;have d3:u=(n:Int):=by rw [<- e1,hn,qE];unfold nM at *;omega
   subst d3;obtain ⟨w,hw⟩:∃ w:Nat,v=(w:Int):=⟨v.toNat,bZ⟩;subst hw;have c0:H.get s=some ⟨52,38,[stpC r m h (.own a o.j.h.length) (.own b0 o.j.i.length) (.own V o.k.length) tr p],false⟩:=by rw [hG s d8 (λhm=>d6 s hm rfl)];exact hs
   have e8:=hh.ga;have c7:=hh.gV;have f6:=hh.ac a hh.bc;have f7:=hh.ac V hh.bi;obtain ⟨nd,c2⟩:∃ y,y=o.j.h[n]:=⟨_,rfl⟩;have Y:o.j.h[n]?.getD 0=nd:=by rw [c2,aA s3];rfl
   rw [Y] at t2;have b4:w<(bV t nd).length:=bZ;have b7:=xa1 (bP (bZ:s<H.next)) (bP (bZ:a<H.next)) (bP (bZ:V<H.next));have g0:=rT ht nd;refine dY λO B=>?_;refine iC (c:=⟨λt=>t==7,λ_=>[]⟩) Tz.mixed (by kernel_rfl) ?_;simp [go_sem,seval,q1,q2,c0,e8,stpC,b7,aA s3,<- c2];repeat first|intro _|refine ⟨gX,?_⟩
   refine aI (r8 t ht nd) (by first|rfl|(simp [go_sem];done)) ?_;simp [go_sem,seval];repeat first|intro _|refine ⟨gX,?_⟩
   refine B _ _ _ ?_;clear B O;refine dY λK2 k2=>?_;refine dY λK4 U=>?_;refine iC (c:=⟨λt=>t==7,λ_=>[]⟩) Tz.mixed (by kernel_rfl) ?_;simp [go_sem,seval,b7,aA b4,Attr.c];repeat first|intro _|refine ⟨gX,?_⟩
   refine U _ _ _ ?_;clear U K4;have C:=hh;obtain ⟨dn,b1⟩:=fH (λu v=>(F u v).isSome&&!z u v);rw [<- b1] at C;have b9:(AB F dn o.k).length=o.k.length:=uG ..;have c4:n<(AB F dn o.k).length:=bZ;have e4:n<S.length:=by rw [C.len];exact c4
   obtain ⟨q,hq⟩:=fH (S[n]);obtain ⟨vr,d1⟩:∃ v,v=(AB F dn o.k)[n]:=⟨_,rfl⟩;have g1:S[n]?=some q:=by rw [aA e4,hq]
   have g2:(AB F dn o.k)[n]?=some vr:=by rw [aA c4,d1]
   have c1:=tS g1 g2;have c6:=C.gq _ _ _ g1 g2;have b8:vr.length=(o.k[n]?.getD []).length:=by rw [<- sB F dn o.k n,g2];rfl
   have a8:w<vr.length:=bZ;have X:q∈S:=aM g1;have f4:=C.ac q (C.a6 X);have d9:=kC C.len;rw [<- b1] at c7;have f3:=bP (bZ:q<H.next);have f1:AD t o.j p m.vars x=(decide (c<(bV t nd)[w].ax)||decide ((bV t nd)[w].ay<c)):=by
    unfold AD;rw [<- hn,Y,(bZ:x.P.toNat=w),aA b4,e3];rfl
   refine WpG.cond (t:=decide (c<(bV t nd)[w].ax)||decide ((bV t nd)[w].ay<c)) (by simp [go_sem]) (λe9=>?_) (λf0=>WpG.skip ?_)
   .refine dY λK5 k5=>?_;refine iC (c:=⟨λt=>t==7,λ_=>[]⟩) Tz.mixed (by kernel_rfl) ?_;simp [go_sem,seval];refine k5 _ _ _ ?_;clear k5 K5;refine WpG.ret ?_;simp [go_sem,Ta];have hT:l.any (AD t o.j p m.vars)=true:=bF.2 ⟨_,W,by rw [f1];exact e9⟩;rw [if_pos hT] at a5;rw [a5] at a2;refine a2 _ (by decide) (λj Z a4=>?_) (by first|(simp [go_sem];done)|(simp [go_sem];omega));simp [go_sem,(bZ:j≠H.next)];exact hG j Z a4
   .simp only [go_sem];refine k2 _ _ _ ?_;clear k2 K2;refine iC (c:=⟨λt=>t==7,λ_=>[]⟩) Tz.mixed (by kernel_rfl) ?_;have c3:n<o.k.length:=bZ;have f5:=C.qn X;simp [go_sem,seval,q1,c0,c7,stpC,b7,f3,c1,c6,d9,b9];refine ⟨c3,a8,?_⟩;simp [go_sem,aA a8,cI];repeat first|intro _|refine ⟨gX,?_⟩
    refine ⟨i',e5,(hI _ _ _ _).2 ⟨_,_,rfl,by simp [go_sem,q1],by simp [go_sem,q2],by simp [go_sem,a6],?_,?_,?_,by first|(simp [go_sem];done)|(simp [go_sem];omega)⟩⟩
    .have hst:=Tm F o.k (dn:=dn) (dn':=λu v=>(F u v).isSome&&!(z u v&&(!decide (u=(n:Int))||!decide (v=(w:Int))))) c3 (by rw [<- b8];exact a8) b6 (λn2 b2 _ _=>by
      rw [b1];by_cases e1:n2=n
      .by_cases e2:b2=w
       .subst e1;subst e2;simp [b6]
       .have e3':¬ ((b2:Int)=w):=bZ;subst e1;simp [e2,e3']
      .have e3':¬ ((n2:Int)=n):=bZ;simp [e1,e3'])
     rw [g2] at hst;rw [<- hst];exact C.c4 (by first|(simp [go_sem];done)|(simp [go_sem];omega)) g1 g2 eG (by simp [go_sem,c6,bJ,cI]) (λj Z e6=>by
      have f9:=(C.ac j Z).2;simp [go_sem,e6,(bZ:j≠H.next)])
    .intro y hy hyf;cases hL:z (nM p y) y.P with
     | false=>exact hO y hy hL
     | true =>
      have a7:nM p y=(n:Int)/\y.P=(w:Int):=by rw [hL] at hyf;simpa using hyf
      have d5:fU p y=n:=by rw [qE,a7.1];rfl
      have d4:dH y.C m.vars=c:=by rw [<- e3];exact Vk a1 y hy x W (by rw [a7.1,e1]) (by rw [a7.2,e2])
      unfold AD;rw [d5,Y,(bZ:y.P.toNat=w),aA b4,d4];exact f0
    .intro j Z a4;simp [go_sem,(bZ:j≠H.next),show j≠q from λe=>a4 (e ▸ C.a6 X)];exact hG j Z a4
theorem Xg {d:Xa0}(c:d.Pairwise (· < ·)){n:Nat}{x:Int}(f:0<=x)(e:x<n)(b:x∈d):∃ p:Nat,p<d.length/\(mA d n)[x.toNat]?=some (p:Int):=by
 obtain ⟨p,a,rfl⟩:=aO b;refine ⟨p,a,?_⟩;rw [yD _ bZ,show ((d[p].toNat:Nat):Int)=d[p] by omega,uQ (mB c) a]
theorem VG {a d:Xa0}{n:Nat}(i:d.Pairwise (· < ·)){k:Int}(l:0<=k)(j:k<a.length)(c:0<=iA a k/\iA a k<n)(g:iA a k∈d):∃ p:Nat,p<d.length/\(p9 a (rF d n))[k.toNat]?.getD 0=p:=by
 obtain ⟨p,f,h⟩:=Xg i c.1 c.2 g;have b:k.toNat<a.length:=bZ;have e:iA a k=a[k.toNat]:=by unfold iA;rw [aA b];rfl
 refine ⟨p,f,?_⟩;unfold p9 rF;rw [aP,aA b,eV,aD,<- e,h];rfl
theorem Ly {keep a at_:Xa0}{b:Nat}(d:a.Nodup)(o:keep.length=a.length)(l:∀ k∈keep,∃ p:Nat,p<b/\at_[k.toNat]?.getD 0=p)(i:Nat) :
  IQ keep a at_ b i=((b+(aN a i).length:Nat):Int)↔mem a i=false:=by
 have f:=LG d (i:Int);have j:=D3 a i a.length;unfold IQ;cases g:mem a i with
 | true =>
  rw [g] at f;have m:¬ iQ a a.length i<0:=by simpa using f
  have c:(iQ a a.length i).toNat<keep.length:=bZ;obtain ⟨p,n,h⟩:=l _ (aC c);rw [if_pos bZ,aA c,aD,h];constructor
  .intro e;omega
  .intro e;cases e
 | false =>
  rw [g] at f;have m:iQ a a.length i<0:=by simpa using f
  rw [if_neg bZ,MD d];simp
theorem SC {keep b at_:Xa0}{a c i:Nat}(h:i<a):(B5 keep b at_ a c)[i]?.getD 0=IQ keep b at_ c i:=by
 unfold B5;simp [h]
section
variable {t:Types} {r:Rule} {h:Host} {m:Mat}
theorem StepIn.dt (S:StepIn t r h m){k:Int}(a:k∈r.u.i):iA m.m.i k∈(cN r h m).i:=by
 have c:=S.hR.u;have g:=S.hm.bz;have b:=c.2.2.1 k a;have f:=oM S.d5.2 b.1 bZ a;rw [S.cn];have d:=S.hm.db k.toNat bZ;have e:iA m.m.i k=m.m.i[k.toNat]' bZ:=by unfold iA;rw [aA bZ];rfl
 exact dC.2 ⟨by rw [e];exact d,f⟩
theorem StepIn.kN (S:StepIn t r h m):∀ k∈r.u.h,(0<=k/\k<m.m.h.length)/\(0<=iA m.m.h k/\iA m.m.h k<h.j.h.length)/\∃ p:Nat,p<(cN r h m).h.length/\(p9 m.m.h (lB r h m).h)[k.toNat]?.getD 0=p:=λk hk=>by
 have hr:=S.hR.u.2.1 k hk;have hl:=S.hm.len;have hi:=S.cj _ (S.cO hk);exact ⟨bZ,hi,VG S.bR hr.1 bZ hi (S.cO hk)⟩
theorem StepIn.kE (S:StepIn t r h m):∀ k∈r.u.i,(0<=k/\k<m.m.i.length)/\(0<=iA m.m.i k/\iA m.m.i k<h.j.i.length)/\∃ p:Nat,p<(cN r h m).i.length/\(p9 m.m.i (lB r h m).i)[k.toNat]?.getD 0=p:=λk hk=>by
 have hr:=S.hR.u.2.2.1 k hk;have hl:=S.hm.bz;have hi:=S.d4 _ (S.dt hk);exact ⟨bZ,hi,VG S.dx hr.1 bZ hi (S.dt hk)⟩
theorem StepIn.ft (S:StepIn t r h m):∀ i,i<r.right.j.h.length->((lL r h m).h[i]?.getD 0=(((cN r h m).h.length+(aN r.A.h i).length:Nat):Int)↔mem r.A.h i=false):=λi hi=>by
 have:=Ly S.ce.1 S.hR.u.1.1 (λk hk=>(S.kN k hk).2.2) i;unfold lL;simp only;rw [SC hi];exact this
theorem StepIn.fu (S:StepIn t r h m):∀ i,i<r.right.j.i.length->((lL r h m).i[i]?.getD 0=(((cN r h m).i.length+(aN r.A.i i).length:Nat):Int)↔mem r.A.i i=false):=λi hi=>by
 have:=Ly S.ce.2 S.hR.u.1.2 (λk hk=>(S.kE k hk).2.2) i;unfold lL;simp only;rw [SC hi];exact this
theorem StepIn.bdE (S:StepIn t r h m):Abs.bdE h (cN r h m) (lB r h m) (cN r h m).i.length=⟨bG h.j (cN r h m),(cN r h m).h.map λk=>h.k[k.toNat]?.getD []⟩:=by
 unfold Go.Abs.bdE bG;rw [if_pos S.sub,aH (bD _)];congr 2;refine cE λk e=>?_;obtain ⟨d,c⟩:=nS S.sub e;have a:∀ v:Int,v∈(cN r h m).h->iA (lB r h m).h v=(lH (cN r h m).h v:Int):=λv b=>by
  have f:=S.cj v b;unfold iA lB rF;simp only;rw [yD _ bZ,aD,show ((v.toNat:Nat):Int)=v by omega,EU S.bR,if_pos ((mem_iff _ _).2 b)]
 unfold trE;rw [a _ d,a _ c];rfl
theorem StepIn.grow (S:StepIn t r h m):kP t r (lL r h m) (Go.Abs.bdE h (cN r h m) (lB r h m) (cN r h m).i.length)=c9 t r h m:=by
 rw [S.bdE];rfl
end
theorem WG {t:Types}{r:Rule}{h:Host}{m:Mat}(a:Gn t r h m=0):fP t r.left.j h.j m.m r.inj=0/\(eH t r.left h m.m).2=0/\(eH t r.left h m.m).1=m.vars:=by
 unfold Gn at a;split at a
 .cases a
 .rename_i h1;split at a
  .exact absurd a (by assumption)
  .rename_i h2;split at a
   .cases a
   .rename_i h3;exact ⟨by simpa using h1,by simpa using h2,by simpa using h3⟩
theorem Vs {t:Types}{r:Rule}(h:ruleF t r=0):condF t r.left r.cond=0:=by
 unfold ruleF at h;split at h
 .exact absurd h (by assumption)
 .split at h
  .cases h
  .split at h
   .exact absurd h (by assumption)
   .split at h
    .exact absurd h (by assumption)
    .split at h
     .exact absurd h (by assumption)
     .split at h
      .cases h
      .exact h
def yN (t:Types)(r:Rule)(h:Host)(m:Mat):Stp26:=if l6 t r h m=0 then uA t r h m else gW
theorem Yk {P:Program}{f:FuncId}{args:Xa2}{r:D}(a:r.W=true)(h:∀ Q:D->AHeap->Prop,(∀ d H',(jS H' d).W=true->(jS H' d=r\/Ub (jS H' d)=r)->Q d H')->ACalls P f args .an Q):Pure P f args r:=by
 refine HN a λQ c=>ACalls.co (h _ λd H' e b=>c _ _ ?_);rw [RT _ e];exact b
theorem Qm (t:Types)(T:t.ok)(r:Rule)(hr:r.ok)(U:ruleF t r=0)(h:Host)(b8:jB t h=0)(m:Mat):Pua 75 [t.d,r.d,h.d,m.d] (.tup [.agg (yN t r h m).c,dI (l6 t r h m)]):=by
 refine Yk (by simp [go_sem,D.W,D.N,Stp26.W]) λQ G=>?_;have w:=Uu hr U;have N:=y4 b8;have e5:=Vs U;refine (Tz.cK ⟨λt=>t==8||t==11||t==13||t==15,λr=>match r with|15=>[(0,2),(2,3),(0,4),(0,6),(1,6),(2,6),(3,6),(4,6)]|16=>[(6,7),(6,8),(6,9),(6,10),(6,11),(6,12)]|17=>[(20,21),(20,22),(20,23),(20,24),(20,25),(20,26),(20,27),(20,28),(20,29),(20,30),(20,31),(20,32),(20,33),(20,34),(20,35),(20,36),(20,37),(20,38),(20,39),(20,40)]|_=>[]⟩ func75 rfl ?_);have Y:=xa2 @Host.d.eq_1 @Host.c.eq_1 @Mat.d.eq_1 @Mat.c.eq_1;refine wv (h:=aB (L0 t T r h m) wl ?_);refine c8 (λh2=>?_) λh2=>?_
 .have b:l6 t r h m=Gn t r h m:=by unfold l6 mG;rw [OG,if_pos h2];simp [h2]
  have f:yN t r h m=gW:=by unfold yN;rw [if_neg bZ]
  refine wv (h:=?_);refine G _ _ (by simp [go_sem,jS,kW,q8,fN,D.W,D.N]) (by first|(left;(simp [go_sem,jS,kW,q8,fN,b,f,gW,eM,mL,fZ,Stp26.c,Rule.c,Mat.c,Host.c,Cond.F,Cond.w,Cond.map,Cond.n,dLI,dI]);done)|(right;(simp [go_sem,jS,kW,q8,fN,b,f,gW,eM,mL,fZ,Stp26.c,Rule.c,Mat.c,Host.c,Cond.F,Cond.w,Cond.map,Cond.n,dLI,dI]);done))
 .have hp0:rK t r h m=jC (sG r.left.j h.j m.m) h.j r.u m.m:=by rw [OG,if_neg bZ]
  obtain ⟨c1,d6,b0⟩:=WG (bZ:Gn t r h m=0);have o:=Rw c1;have b7:BB t r.left.j h.j m.m=sG r.left.j h.j m.m:=by unfold BB;rw [if_pos o]
  have W:=uI (pW o).2;have e0:=aY w.pl.gg;have d9:=aY w.gr;have e4:=aY N.gg;have d7:=W.len;have d0:=W.bz;have d8:=w.kl;have d5:=N.vl;have b1:∀ v∈h.k,v.length<=100000:=λv hv=>by have:=(N.row v hv).1;omega
  have Y:=xa1 Y o b7;refine wv (h:=aB (Gk t T r.left.j h.j m.m) wl ?_);refine wv (h:=aB (wL (sG r.left.j h.j m.m) h.j r.u m.m bZ bZ bZ bZ bZ) wl ?_);refine c8 (λh8=>?_) λh8=>?_
  .have hpe:rK t r h m≠0:=bZ;have b:l6 t r h m=rK t r h m:=by unfold l6 mG;rw [if_pos hpe,if_pos hpe]
   have f:yN t r h m=gW:=by unfold yN;rw [if_neg bZ]
   refine wv (h:=?_);refine G _ _ (by simp [go_sem,jS,kW,q8,fN,D.W,D.N]) (by first|(left;(simp [go_sem,jS,kW,q8,fN,b,hp0,f,gW,eM,mL,fZ,Stp26.c,Rule.c,Mat.c,Host.c,Cond.F,Cond.w,Cond.map,Cond.n,dLI,dI]);done)|(right;(simp [go_sem,jS,kW,q8,fN,b,hp0,f,gW,eM,mL,fZ,Stp26.c,Rule.c,Mat.c,Host.c,Cond.F,Cond.w,Cond.map,Cond.n,dLI,dI]);done))
  .have hpre:rK t r h m=0:=bZ;have S:=Qp w N hpre;have s:=K6 S hpre;have hP:j4 (sG r.left.j h.j m.m) h.j r.u m.m=cN r h m:=rfl;have c2:Xc t r.left r.cond h m r.inj=0:=by
    unfold Xc;rw [if_neg bZ,if_neg bZ,if_neg bZ,if_neg bZ,if_neg (by rw [b0];simp)]
   have F:mG t r h m=if (o7 t h r.inj r.cond m).2≠0 then (o7 t h r.inj r.cond m).2 else if (o7 t h r.inj r.cond m).1=false then 16 else 0:=by unfold mG;rw [if_neg bZ]
   have Y:=wa Y hP;refine wv (h:=aB ((by have M:=BE t T r.left r.cond hr.cond w.cond w.pl h N m s r.inj c2;simp only [Cond.E] at M;unfold Types.d Types.c Pattern.d Pattern.c Host.d Host.c Mat.d Mat.c dLI dI at M;exact M)) wl ?_);refine c8 (λL=>?_) λL=>?_
   .have b:l6 t r h m=(o7 t h r.inj r.cond m).2:=by unfold l6;rw [F,if_pos L];simp [L]
    have f:yN t r h m=gW:=by unfold yN;rw [if_neg bZ]
    refine wv (h:=?_);refine G _ _ (by simp [go_sem,jS,kW,q8,fN,D.W,D.N]) (by first|(left;(simp [go_sem,jS,kW,q8,fN,b,f,gW,eM,mL,fZ,Stp26.c,Rule.c,Mat.c,Host.c,Cond.F,Cond.w,Cond.map,Cond.n,dLI,dI]);done)|(right;(simp [go_sem,jS,kW,q8,fN,b,f,gW,eM,mL,fZ,Stp26.c,Rule.c,Mat.c,Host.c,Cond.F,Cond.w,Cond.map,Cond.n,dLI,dI]);done))
   .refine kI (λK=>?_) λK=>?_
    .have b:l6 t r h m=16:=by
      have:(o7 t h r.inj r.cond m).1=false:=by simpa using K
      have V:mG t r h m=16:=by rw [F,if_neg bZ,if_pos this]
      unfold l6;rw [if_pos bZ,V]
     have f:yN t r h m=gW:=by unfold yN;rw [if_neg bZ]
     refine wv (h:=?_);refine G _ _ (by simp [go_sem,jS,kW,q8,fN,D.W,D.N]) (by first|(left;(simp [go_sem,jS,kW,q8,fN,b,f,gW,eM,mL,fZ,Stp26.c,Rule.c,Mat.c,Host.c,Cond.F,Cond.w,Cond.map,Cond.n,dLI,dI]);done)|(right;(simp [go_sem,jS,kW,q8,fN,b,f,gW,eM,mL,fZ,Stp26.c,Rule.c,Mat.c,Host.c,Cond.F,Cond.w,Cond.map,Cond.n,dLI,dI]);done))
    .have V:mG t r h m=0:=by
      have a5:(o7 t h r.inj r.cond m).1=true:=by simpa using K
      rw [F,if_neg bZ,if_neg (by rw [a5];simp)]
     have hK:=w.u;have z:=S.kN;have A:=S.kE;obtain ⟨l,g⟩:=fH (lB r h m);obtain ⟨u,a⟩:=fH (lL r h m);have a3:rF (cN r h m).h h.j.h.length=l.h:=by rw [g];rfl
     have a2:rF (cN r h m).i h.j.i.length=l.i:=by rw [g];rfl
     have R:l.h.length=h.j.h.length:=by rw [<- a3];exact kD _ _
     have c6:l.i.length=h.j.i.length:=by rw [<- a2];exact kD _ _
     rw [<- g] at z A;have c4:B5 r.u.h r.A.h (p9 m.m.h l.h) r.right.j.h.length (cN r h m).h.length=u.h:=by rw [a,g];rfl
     have c3:B5 r.u.i r.A.i (p9 m.m.i l.i) r.right.j.i.length (cN r h m).i.length=u.i:=by rw [a,g];rfl
     have c0:=S.len;have a9:=s.vl;have a8:Sm m.vars:=λv hv=>by have:=s.vs v hv;omega
     have d4:=w.pl.vars;have a1:u.h.length=r.right.j.h.length:=by rw [a];simp [lL,B5]
     have a0:u.i.length=r.right.j.i.length:=by rw [a];simp [lL,B5]
     have X:=S.ft;have Z:=S.fu;have hB:=S.grow;rw [<- a] at X Z hB;rw [<- g] at hB;have Y:=xa3 Y a3 a2 c4 c3;refine wv (h:=aI (G8 m bZ bZ bZ) wl ?_);refine wv (h:=aI (Jr h bZ bZ bZ b1) wl ?_);refine wp (h:=aI (G6 h.j.h.length bZ (cN r h m).h S.bR bZ) wl ?_);refine wp (h:=aI (G6 h.j.i.length bZ (cN r h m).i S.dx bZ) wl ?_);refine wp (h:=aI (CT r.right.j.h.length bZ r.u.h r.A.h m.m.h l.h (cN r h m).h.length bZ bZ hK.2.2.2.1 (λx n=>(z x n).1) (λx n=>by have:=(z x n).2.1;omega) (λx n=>by obtain ⟨p,_,hp⟩:=(z x n).2.2;omega)) wl ?_);refine wp (h:=aI (CT r.right.j.i.length bZ r.u.i r.A.i m.m.i l.i (cN r h m).i.length bZ bZ hK.2.2.2.2 (λx n=>(A x n).1) (λx n=>by have:=(A x n).2.1;omega) (λx n=>by obtain ⟨p,_,hp⟩:=(A x n).2.2;omega)) wl ?_);refine wp (h:=?_);refine tK (.step (.step (.step (.refl _) 9 0 31 3 1 _ _ (by simp [go_sem];rfl) rfl rfl rfl) 9 0 32 153 3 _ _ (by simp [go_sem];rfl) rfl rfl rfl) 9 0 33 26 1 _ _ (by simp [go_sem];rfl) rfl rfl rfl) ?_;simp [go_sem];unfold e8;refine Ql t T r w m h N (cN r h m) l u S.cj S.d4 c0 R ⟨a1,a0⟩ X Z 9 73 74 75 _ (by simp [go_sem,stpC,dLI]) ⟨by simp [go_sem],by simp [go_sem],by simp [go_sem,lW],rfl,λi q v h1 _=>by simp at h1,by simp,λq M=>by simp at M;rcases M with rfl|rfl|rfl<;>simp [go_sem]⟩ (by simp [go_sem]) eG (λj hj b=>?_) _ (λqs H1 a4 C b3 b2 b9 b5=>?_)
     .simp [go_sem,j8,mV,v8,rW] at b hj;omega
     rw [hB] at a4 C;have c7:76<=H1.next:=by simp [go_sem] at b5;omega
     have k0:=b9 0 (by simp [go_sem]) eG;simp [go_sem] at k0;have y:∀ j,j<73->j∉73 :: 74 :: 75 :: qs:=λj hj hm=>by
      simp only [aS] at hm;rcases hm with h|h|h|h
      .omega
      .omega
      .omega
      .have:=b2 j h;simp [go_sem] at this;omega
     refine wp (h:=?_);unfold e8;refine SX t T r w m h (c9 t r h m) l u (a ▸ S.put) a9 a8 H1 9 73 74 75 qs C a4 b3 bZ _ (λH2 I B b4=>?_) (λH2 I H B b4=>?_)
     .have m0:=(B 0 bZ (y 0 bZ)).trans k0;have b:l6 t r h m=wH t (c9 t r h m).j u m.vars r.right.q:=by unfold l6;rw [if_neg bZ,<- a,if_pos I]
      have f:yN t r h m=gW:=by unfold yN;rw [if_neg bZ]
      simp [go_sem,seval,m0];refine bA (λhc=>?_) (λhc=>absurd (eL hc) I);simp [go_sem,seval,m0];refine G _ _ (by simp [go_sem,jS,kW,q8,fN,D.W,D.N]) (by first|(left;(simp [go_sem,jS,kW,q8,fN,b,f,gW,eM,mL,fZ,Stp26.c,Rule.c,Mat.c,Host.c,Cond.F,Cond.w,Cond.map,Cond.n,dLI,dI]);done)|(right;(simp [go_sem,jS,kW,q8,fN,b,f,gW,eM,mL,fZ,Stp26.c,Rule.c,Mat.c,Host.c,Cond.F,Cond.w,Cond.map,Cond.n,dLI,dI]);done))
     have m0:=(B 0 bZ (y 0 bZ)).trans k0;have m9:=(B 9 bZ (y 9 bZ)).trans C;simp only [stpC] at m9;have a7:H2.get 73=some ⟨3,1,(c9 t r h m).j.h.map cI,false⟩:=H.ga;have a6:H2.get 74=some ⟨153,3,(c9 t r h m).j.i.map Edge.c,false⟩:=H.gb;have Y:=xa3 Y m0 m9 a7 a6;refine kI (λJ=>?_) λJ=>?_
     .have b:l6 t r h m=3:=by
       unfold l6;rw [if_neg bZ,<- a,if_neg bZ,if_pos (by first|exact J|omega)]
      have f:yN t r h m=gW:=by unfold yN;rw [if_neg bZ]
      refine wv (h:=?_);refine G _ _ (by simp [go_sem,jS,kW,q8,fN,D.W,D.N]) (by first|(left;(simp [go_sem,jS,kW,q8,fN,b,f,gW,eM,mL,fZ,Stp26.c,Rule.c,Mat.c,Host.c,Cond.F,Cond.w,Cond.map,Cond.n,dLI,dI]);done)|(right;(simp [go_sem,jS,kW,q8,fN,b,f,gW,eM,mL,fZ,Stp26.c,Rule.c,Mat.c,Host.c,Cond.F,Cond.w,Cond.map,Cond.n,dLI,dI]);done))
     .have b:l6 t r h m=0:=by
       unfold l6;rw [if_neg bZ,<- a,if_neg bZ,if_neg (by first|exact J|omega)]
      have f:yN t r h m=uA t r h m:=by unfold yN;rw [if_pos b]
      have hW:lD t r h m=⟨(c9 t r h m).j,wG u m.vars r.right.q (c9 t r h m).k⟩:=by rw [a];rfl
      have P:=(uF u m.vars r.right.q (c9 t r h m).k).1;have c5:∀ k:Blk,Q (.tup [.agg (stpC r m h (.own 73 (c9 t r h m).j.h.length) (.own 74 (c9 t r h m).j.i.length) (.own 75 (c9 t r h m).k.length) l u),dI 0]) (H2.put 0 k):=λk=>by
       obtain ⟨E,hE⟩:=fH (H2.put 0 k);have h5:HH E 0 73 74 75 qs (lD t r h m):=by
        rw [hW];exact H.same (by rw [hE];simp [go_sem]) (λj hj=>by
         have b6:j≠0:=λe=>y 0 bZ (e ▸ hj);rw [hE];simp [go_sem,b6])
       have hd:=h5.co;have e1:(lD t r h m).j.h.length=(c9 t r h m).j.h.length:=by rw [hW]
       have e2:(lD t r h m).j.i.length=(c9 t r h m).j.i.length:=by rw [hW]
       have e3:(lD t r h m).k.length=(c9 t r h m).k.length:=by rw [hW];exact P
       rw [e1,e2,e3] at hd;simp only [kW,gJ,jJ,Host.d,Host.c,D.agg.injEq,List.cons.injEq,and_true] at hd;obtain ⟨d1,d2,d3⟩:=hd;have O:jS E (.tup [.agg (stpC r m h (.own 73 (c9 t r h m).j.h.length) (.own 74 (c9 t r h m).j.i.length) (.own 75 (c9 t r h m).k.length) l u),dI 0])=.tup [.agg (yN t r h m).c,dI (l6 t r h m)]:=by
        rw [b,f];simp only [jS,kW,stpC,gJ,jJ,d1,d2,d3];simp [kW,q8,fN,uA,Stp26.c,Rule.c,Mat.c,Host.c,dLI,dI,g,a]
       rw [<- hE];exact G _ _ (by rw [O];simp [go_sem,D.W,D.N,Stp26.W]) (.inl O)
      refine wv (h:=?_);exact c5 _
theorem EH {t:Types}{r:Rule}{h:Host}(a:jU t r h=0):ruleF t r=0/\jB t h=0:=by
 unfold jU at a;split at a
 .exact absurd a (by assumption)
 .rename_i h1;exact ⟨by simpa using h1,a⟩
theorem L1 (t:Types)(g:t.ok)(r:Rule)(i:r.ok)(a:ruleF t r=0)(h:Host)(b:jB t h=0)(m:Mat){v:Stp26}{e:Int}(f:v=yN t r h m)(j:e=l6 t r h m):Pua 75 [t.d,r.d,h.d,m.d] (.tup [.agg v.c,dI e]):=by
 subst f j;exact Qm t g r i a h b m
theorem Qo (t:Types)(j:t.ok)(r:Rule)(k:r.ok)(h:Host)(m:Mat):Pua 29 [t.d,r.d,h.d,m.d] (.tup [.agg (g7 t r h m).c,dI (oB t r h m)]):=by
 obtain ⟨v,i⟩:=fH (yN t r h m);obtain ⟨e,f⟩:=fH (l6 t r h m);refine Tz.pK ⟨λt=>t==8,λ_=>[]⟩ func29 rfl (λQ l=>?_);have Y:=xa3 @Host.d.eq_1 @Host.c.eq_1 @Mat.d.eq_1 @Mat.c.eq_1 @Stp26.c.eq_1;refine wv (h:=aB (Qk t j r k h) wl ?_);refine c8 (λn=>?_) λn=>?_
 .have a:oB t r h m=jU t r h:=by unfold oB;rw [if_pos n]
  have g:g7 t r h m=gW:=by unfold g7;rw [if_neg bZ]
  exact wv (h:=l _ _ (by simp [go_sem,a,g,gW,eM,mL,fZ,Stp26.c,Rule.c,Mat.c,Host.c,Cond.F,Cond.w,Cond.map,Cond.n,dLI,dI]))
 .have hz:=EH (bZ:jU t r h=0);have a:oB t r h m=e:=by rw [f];unfold oB;rw [if_neg bZ]
  have g:g7 t r h m=v:=by rw [i];unfold g7 yN;rw [a,f]
  refine wv (h:=aB ((by have b:=L1 t j r k hz.1 h hz.2 m i f;simp only [Stp26.c,Rule.c,Mat.c,Host.c,dP,dS] at b;unfold Mat.d Mat.c Host.d Host.c dLI at b;exact b)) wl ?_);exact wv (h:=l _ _ (by simp [go_sem,a,g,Stp26.c,Rule.c,Mat.c,Host.c]))
deriving instance DecidableEq for Edge
deriving instance DecidableEq for Graph
deriving instance DecidableEq for Part
deriving instance DecidableEq for Host
deriving instance DecidableEq for Mat
theorem Ls {x y:Edge}(h:x.type=y.type/\x.B=y.B/\x.O=y.O):x=y:=by
 obtain ⟨a,b,c⟩:=x;obtain ⟨d,e,f⟩:=y;obtain ⟨rfl,rfl,rfl⟩:=h;rfl
theorem Dh (a b:Part):decide (a=b)=(decide (a.h=b.h)&&decide (a.i=b.i)):=by
 rw [aU];cases a;cases b;simp
theorem DD (a b:Graph):decide (a=b)=(decide (a.h=b.h)&&decide (a.i=b.i)):=by
 rw [aU];cases a;cases b;simp
theorem UN (a b:Mat):decide (a=b)=(decide (a.m=b.m)&&decide (a.vars=b.vars)):=by
 rw [aU];cases a;cases b;simp
theorem Sj (a b:Host):decide (a=b)=(decide (a.j=b.j)&&decide (a.k=b.k)):=by
 rw [aU];cases a;cases b;simp
theorem l7 (a b:Xa0):Pua 97 [dLI a,dLI b] (.bool (decide (a=b))):=by
 refine Tz.p0 func97 rfl λQ g Y=>?_;refine dW (λm=>?_) λm=>?_
 .refine wv (h:=?_);have c:a≠b:=by intro h;subst h;omega
  exact g _ _ (by simp [go_sem,c])
 .refine wv (h:=bC (λi e H=>(e 0=dLI a/\e 1=dLI b/\e 5=dI i)/\(i<=a.length)/\(a.take i=b.take i)) (λi=>a.length - i) 0 ⟨wg,wi,(by rfl)⟩ λp j i e H d=>?_);obtain ⟨n,o,f⟩:=d;have Y:=wa Y n;refine wv (h:=?_);repeat first|intro _|refine ⟨iF,?_⟩
  refine wq (λl=>?_) λl=>?_
  .have hib:i<b.length:=bZ;have Y:=xa1 Y l hib;refine dW (λk=>?_) λk=>?_
   .refine wv (h:=?_);have c:a≠b:=by intro h;subst h;exact k rfl
    exact g _ _ (by simp [go_sem,c])
   .exact wo (h:=wx j (i+1) ⟨wg,wj,(by rw [aF l,aF hib,f,k])⟩)
  .rw [aH bZ,aH bZ] at f;exact wv (h:=g _ _ (by simp [go_sem,f]))
theorem Fz (a b:Graph):Pua 54 [a.d,b.d] (.bool (decide (a=b))):=by
 refine Tz.p0 func54 rfl λQ m Y=>?_;refine wo (h:=aB (l7 a.h b.h) wl ?_);refine dW (λj=>?_) λj=>?_
 .refine wv (h:=?_);have f:a≠b:=by intro h;subst h;simp at j
  exact m _ _ (by simp [go_sem,f])
 .have hab:a.h=b.h/\a.i.length=b.i.length:=by (try simp at j);obtain ⟨p,r⟩:=j;exact ⟨p,bZ⟩
  refine wv (h:=bC (λi e H=>(e 2=.adr a.c/\e 3=.adr b.c/\e 5=dI i)/\(i<=a.i.length)/\(a.i.take i=b.i.take i)) (λi=>a.i.length - i) 0 ⟨wg,wi,(by rfl)⟩ λt n i e H k=>?_);obtain ⟨q,s,l⟩:=k;have Y:=wa Y q;refine wv (h:=?_);repeat first|intro _|refine ⟨iF,?_⟩
  refine wq (λg=>?_) λg=>?_
  .have hib:i<b.i.length:=bZ;have Y:=xa2 Y g (aA g) (aA hib);refine dW (λo=>?_) λo=>?_
   .refine wv (h:=?_);have f:a≠b:=by intro h;subst h;simp at o
    exact m _ _ (by simp [go_sem,f])
   .exact wo (h:=wx n (i+1) ⟨wg,wj,(by rw [aF g,aF hib,l,Ls o])⟩)
  .have hE:a.i=b.i:=by rw [aH bZ,aH bZ] at l;exact l
   exact wv (h:=m _ _ (by simp [go_sem,DD,hab.1,hE]))
theorem vI (a b:Part):Pua 16 [a.d,b.d] (.bool (decide (a=b))):=by
 refine Tz.p0 func16 rfl λQ e Y=>?_;refine wo (h:=aB (uD a.h b.h) wl ?_);refine wo (h:=aG (λc=>uD a.i b.i) (λc=>wl) ?_);have Y:=wa Y @Dh;exact wo (h:=e _ _ wy)
theorem Oo (a b:Part):Pua 80 [a.d,b.d] (.bool (decide (a=b))):=by
 refine Tz.p0 func80 rfl λQ e Y=>?_;refine wo (h:=aB (l7 a.h b.h) wl ?_);refine wo (h:=aG (λc=>l7 a.i b.i) (λc=>wl) ?_);have Y:=wa Y @Dh;exact wo (h:=e _ _ wy)
theorem Ey (a b:Mat):Pua 40 [a.d,b.d] (.bool (decide (a=b))):=by
 refine Tz.p0 func40 rfl λQ f _=>?_;have Y:=wa @Mat.d.eq_1 @Mat.c.eq_1;refine wo (h:=aB (l7 a.m.h b.m.h) wl ?_);refine wo (h:=aG (λe=>l7 a.m.i b.m.i) (λe=>wl) ?_);refine wo (h:=aG (λe=>l7 a.vars b.vars) (λe=>wl) ?_);have Y:=xa1 Y @UN @Dh;exact wo (h:=f _ _ wy)
def Ba (a b:Xa0):Prop:=∃ k:Int,Pure prog 96 [dLI a,dLI b] (dI k)/\(k=0↔a=b)
theorem HB (a:Xa0):Pua 96 [dLI a,dLI a] (dI 0):=by
 refine Tz.p0 func96 rfl λQ f Y=>?_;refine wv (h:=bC (λi e H=>(e 0=dLI a/\e 1=dLI a/\e 5=dI i)/\(i<=a.length)) (λi=>a.length - i) 0 ⟨wg,wi⟩ λk d i e H c=>?_);obtain ⟨g,j⟩:=c;have Y:=wa Y g;refine wv (h:=?_);repeat first|intro _|refine ⟨iF,?_⟩
 refine wq (λb=>?_) λb=>?_
 .have Y:=xa1 Y b (aA b);exact wo (h:=wx d (i+1) ⟨wg,wj⟩)
 .have Y:=wa Y b;exact wo (h:=f _ _ wy)
theorem rR (a:Xa0):Ba a a:=⟨0,HB a,by simp⟩
theorem Ax (a b:Host)(t:∀ i (l:i<a.k.length) (x:i<b.k.length),Ba a.k[i] b.k[i]):Pua 39 [a.d,b.d] (.bool (decide (a=b))):=by
 refine Tz.p0 func39 rfl λQ p _=>?_;have Y:=wa @Host.d.eq_1 @Host.c.eq_1;refine wo (h:=aB (Fz a.j b.j) wl ?_);refine dW (λl=>?_) λl=>?_
 .refine wv (h:=?_);have f:a≠b:=by intro h;subst h;simp at l
  exact p _ _ (by simp [go_sem,f])
 .have hab:a.j=b.j/\a.k.length=b.k.length:=by (try simp at l);obtain ⟨s,v⟩:=l;exact ⟨s,bZ⟩
  refine wv (h:=bC (λi e H=>(e 2=.adr a.c/\e 3=.adr b.c/\e 5=dI i)/\(i<=a.k.length)/\(a.k.take i=b.k.take i)) (λi=>a.k.length - i) 0 ⟨wg,wi,(by rfl)⟩ λy q i e H n=>?_);obtain ⟨u,w,o⟩:=n;have Y:=wa Y u;refine wv (h:=?_);repeat first|intro _|refine ⟨iF,?_⟩
  refine wq (λj=>?_) λj=>?_
  .have hib:i<b.k.length:=bZ;obtain ⟨k,m,g⟩:=t i j hib;have Y:=xa3 Y j (aA j) (aA hib) @cL.eq_1;refine wo (h:=aI (m) wl ?_);refine dW (λr=>?_) λr=>?_
   .refine wv (h:=?_);have f:a≠b:=by intro h;subst h;exact r (g.2 rfl)
    exact p _ _ (by simp [go_sem,f])
   .exact wo (h:=wx q (i+1) ⟨wg,wj,(by rw [aF j,aF hib,o,g.1 r])⟩)
  .have hV:a.k=b.k:=by rw [aH bZ,aH bZ] at o;exact o
   exact wv (h:=p _ _ (by simp [go_sem,Sj,hab.1,hV]))
theorem tA (t:Types)(b:t.ok)(r:Rule)(f:r.ok)(h:Host)(m:Mat){v:Stp26}{e:Int}(a:v=g7 t r h m)(g:e=oB t r h m):Pua 29 [t.d,r.d,h.d,m.d] (.tup [.agg v.c,dI e]):=by
 subst a g;exact Qo t b r f h m
theorem Ia {t:Types}(d:t.av):∀ c:Nat,c<t.h.length->∀ (b:Nat) (a:Int),mem (t.ao c) (b:Int)=true->mem (t.ao b) a=true->mem (t.ao c) a=true:=by
 intro c;induction c using Nat.strongRecOn with
 | _ c ih =>
 intro g b a hb h;have f:=d.G c _ (aA g);have e:=AJ t c g (d.ap c);rw [e,xK,c5] at hb;rcases hb with hb|hb
 .by_cases h0:0<=t.h[c].G
  .rw [if_pos h0] at hb;rw [e,xK,c5,if_pos h0];exact .inl (ih _ bZ bZ b a hb h)
  .rw [if_neg h0,Ds] at hb;cases hb
 .have:b=c:=by simp at hb;omega
  subst this;exact h
theorem TO {t:Types}(i:(cQ t).2=0){ty a b e d:Int}(h:oR t ty a b=true)(g:wO t a e=true)(f:wO t b d=true)(k:0<=e/\e<t.h.length)(j:0<=d/\d<t.h.length):oR t ty e d=true:=by
 have c:=oZ i;unfold oR at h ⊢;simp only [aL,decide_eq_true_eq] at h ⊢;obtain ⟨⟨o,n⟩,m,l⟩:=h;obtain ⟨_,q,p⟩:=sK o;unfold wO at g f;rw [show a=((a.toNat:Nat):Int) by omega] at g;rw [show b=((b.toNat:Nat):Int) by omega] at f;refine ⟨⟨?_,n⟩,Ia c _ bZ a.toNat _ g m,Ia c _ bZ b.toNat _ f l⟩;simp [given2F,i,insideF,k,j]
section
variable {t:Types} {r:Rule} {h:Host} {m:Mat}
theorem WW {l a:Xa0}{es:List Edge}{g:Graph}{n:Int}(d:0<=n)(c:n<l.length)(b:g.h=l++a):gN g n=l[n.toNat]?.getD 0:=by
 unfold gN;rw [b,aR bZ]
theorem StepIn.ff (S:StepIn t r h m):∀ x∈(c9 t r h m).j.i,((0<=x.type/\x.type<t.i.length)/\(0<=x.B/\x.B<(c9 t r h m).j.h.length)/\(0<=x.O/\x.O<(c9 t r h m).j.h.length)) /\
  oR t x.type (gN (c9 t r h m).j x.B) (gN (c9 t r h m).j x.O)=true:=λx hx=>by
 have hbN:=S.bj;have hbin:=S.eu;rw [S.ci,bE,aV,aV] at hx;rcases hx with ⟨k,hk,rfl⟩|⟨k,hk,rfl⟩
 .have hr:=S.d4 k hk;have hy:=AX hr.1 hr.2;obtain ⟨e1,e2⟩:=S.ho.ed _ hy;have hgi:=(dO S.ho.gg).2 _ hy;obtain ⟨s1,s2⟩:=nS S.sub hk;obtain ⟨p1,p2,_⟩:=lC S.bR s1;obtain ⟨q1,q2,_⟩:=lC S.bR s2;have key:∀ v:Int,v∈(cN r h m).h->lH (cN r h m).h v<(cN r h m).h.length->iA (cN r h m).h (lH (cN r h m).h v)=v->gN (c9 t r h m).j (lH (cN r h m).h v)=gN h.j v:=λv hv hp hi=>by
   rw [WW (es:=[]) bZ (eL hp) hbN,show ((lH (cN r h m).h v:Nat):Int).toNat=lH (cN r h m).h v by omega,aP];unfold iA at hi;rw [show ((lH (cN r h m).h v:Nat):Int).toNat=lH (cN r h m).h v by omega,aA hp,aD] at hi;rw [aA hp,eV,aD,hi]
  have hl:(c9 t r h m).j.h.length=(cN r h m).h.length+r.Y.length:=by rw [hbN];simp
  rw [sU];refine ⟨⟨⟨hgi.1.1,e1⟩,⟨by simp only;omega,by simp only;omega⟩,by simp only;omega,by simp only;omega⟩,?_⟩;simp only;rw [key _ s1 p1 p2,key _ s2 q1 q2];exact e2
 .have hr:=eJ hk;have hk2:k.toNat<r.right.j.i.length:=bZ;have hy:=(iW S.hR.gr S.hR.tr).2 _ (aC hk2);rw [aA hk2,aD];obtain ⟨y,hye⟩:=fH (r.right.j.i[k.toNat]);rw [<- hye] at hy ⊢;have hf:y.B.toNat<r.right.j.h.length:=bZ;have ht:y.O.toNat<r.right.j.h.length:=bZ;obtain ⟨n1,c1,l1,b1⟩:=S.er hf;obtain ⟨n2,c2,l2,b2⟩:=S.er ht;unfold freshE;rw [c1,c2];simp only [aD];have hfit:oR t y.type r.right.j.h[y.B.toNat] r.right.j.h[y.O.toNat]=true:=by
   have:=S.hR.ek;unfold sE at this;rw [aL,b7,b7,iK,iK] at this;have h1:=this.2 k hk;unfold unfitB at h1;rw [aA hk2,aD,<- hye] at h1;unfold gN at h1;rw [aA hf,aA ht] at h1;simpa using h1
  have e1:gN (c9 t r h m).j (n1:Int)=(c9 t r h m).j.h[n1]:=by simp [gN,aA l1]
  have e2:gN (c9 t r h m).j (n2:Int)=(c9 t r h m).j.h[n2]:=by simp [gN,aA l2]
  refine ⟨⟨⟨hy.1.1,hy.1.2⟩,⟨bZ,bZ⟩,bZ,bZ⟩,?_⟩;rw [e1,e2];exact TO S.hR.vf hfit b1 b2 (hbin _ (aC l1)) (hbin _ (aC l2))
theorem U8 {x:Host}(f:(cQ t).2=0)(h:x.j.h.length<=40)(l:x.j.i.length<=80)(s:x.k.length=x.j.h.length)(m:∀ a∈x.j.h,0<=a/\a<t.h.length)
  (d:∀ (n:Nat) (p:n<x.j.h.length) (w:n<x.k.length),i4 t x.j.h[n] x.k[n]=0)
  (c:∀ y∈x.j.i,((0<=y.type/\y.type<t.i.length)/\(0<=y.B/\y.B<x.j.h.length)/\(0<=y.O/\y.O<x.j.h.length))/\oR t y.type (gN x.j y.B) (gN x.j y.O)=true):jB t x=0:=by
 have v:=(oZ f).br;have k:=(oZ f).dv;have u:graphF x.j=0:=EF h l (λa o=>by have:=m a o;omega) λy g=>by
  obtain ⟨⟨r,e,q⟩,_⟩:=c y g;exact ⟨bZ,e,q⟩
 have p:(iM (Io t x) 0 x.j.h.length).2=0:=by
  rw [vS];refine nD _ _ λj _ i=>?_;have b:j<x.j.h.length:=bZ;unfold Io;rw [aA b,aA (bZ:j<x.k.length),aD,aD];exact d j b bZ
 unfold jB pR;rw [if_neg bZ,if_neg bZ,if_neg bZ,if_neg bZ,vS];refine nD _ _ λj _ i=>?_;have b:j<x.j.i.length:=bZ;obtain ⟨r,e⟩:=c _ (aC b);unfold TJ;rw [aA b,aD,if_neg bZ,if_pos e]
theorem RY {g:Graph}{c:Part}{vs:Xa0}:∀ (l:List Slot) (vals:Yb),vals.length=g.h.length->(∀ (n:Nat) (h1:n<g.h.length) (h2:n<vals.length),i4 t g.h[n] vals[n]=0) ->
  (∀ s∈l,AD t g c vs s=false)->(∀ s∈l,0<=s.P)->∀ (n:Nat) (h1:n<g.h.length) (h2:n<(wG c vs l vals).length),i4 t g.h[n] (wG c vs l vals)[n]=0
 | [],vals,_,hx,_,_=>λn h1 h2=>hx n h1 h2
 | s :: l,vals,hl,hx,ho,ha=>by
  refine RY l (vals.set (fU c s) ((vals[fU c s]?.getD []).set s.P.toNat (dH s.C vs))) (by rw [iU];exact hl) (λn h1 h2=>?_) (λs hs=>ho s (by simp [hs])) (λs hs=>ha s (by simp [hs]));rw [iU] at h2;have hI:=hx n h1 h2;rw [Bx];split
  .rename_i hs';subst hs';rw [aA h2,aD];obtain ⟨a1,a2,a3,a4⟩:=xR hI;unfold i4;rw [if_neg bZ,if_neg (by rw [a2];simp),if_neg (by rw [iU];omega)];refine nD _ _ λj _ hj=>?_;have hja:j<(bV t g.h[fU c s]).length:=bZ;unfold Dt;rw [aA hja,aD];by_cases hj2:s.P.toNat=j
   .have e:((vals[fU c s]).set s.P.toNat (dH s.C vs))[j]?=some (dH s.C vs):=by rw [<- hj2];exact zF bZ
    rw [e,aD,if_neg];have hO:=ho s eG;unfold AD at hO;rw [aA h1,aD,hj2,aA hja,aD,Bool.or_eq_false_iff,decide_eq_false_iff_not,decide_eq_false_iff_not] at hO;omega
   .rw [s9 hj2,aA (bZ:j<(vals[fU c s]).length),aD,if_neg];have:=a4 j bZ hja;omega
  .exact hI
theorem StepIn.after (S:StepIn t r h m)(a:wH t (c9 t r h m).j (lL r h m) m.vars r.right.q=0)(e:(c9 t r h m).j.h.length<=40)(f:(c9 t r h m).j.i.length<=80):jB t (lD t r h m)=0:=by
 have d:∀ s∈r.right.q,AD t (c9 t r h m).j (lL r h m) m.vars s=false:=by
  unfold wH at a;split at a
  .cases a
  .split at a
   .cases a
   .rename_i b;rw [Bool.not_eq_true,iK] at b;exact λs c=>by simpa using b s c
 exact U8 S.hR.vf e f (by show (wG _ _ _ _).length=_;rw [(uF _ _ _ _).1];exact S.dm) S.eu (λn g b=>RY _ _ S.dm S.node d (λs c=>(S.hR.q s c).2.1.1) n g b) S.ff
end
section
variable {g:Graph} {p:Part} {more:Graph} {kept:Part} {im:Xa0}
end
section
variable {t:Types} {a b:Rule} {o:Ovl}
end
section
variable {g:Graph} {p q:Xa0}
end
section
variable {t:Types} {g:Graph} {d:Dr24}
structure GrOk (t:Types) (g G:Graph):Prop where
 ok:graphF G=0
 ty:eY t G=true
 no:∀ i:Int,0<=i->i<g.h.length->gN G i=gN g i
 ed:∀ k:Int,0<=k->k<g.i.length->eA G k=eA g k
 fi:∀ k:Int,g.i.length<=k->k<G.i.length->oR t (eA G k).type (gN G (eA G k).B) (gN G (eA G k).O)=true
 ln:g.h.length<=G.h.length
 le:g.i.length<=G.i.length
end
end Go.Abs
end
