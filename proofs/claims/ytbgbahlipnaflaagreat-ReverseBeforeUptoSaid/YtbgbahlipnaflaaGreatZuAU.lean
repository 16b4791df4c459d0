/- The step of the program: what the slots of Right give (a map -/
import Derived.Test.YtbgbahlipnaflaaGreatZuAS
import Derived.Test.YtbgbahlipnaflaaGreatZuAA
import Derived.Test.YtbgbahlipnaflaaGreatZuAT
import Derived.Test.YtbgbahlipnaflaaGreatZuAG
import Derived.Test.YtbgbahlipnaflaaGreatZuAK
import Derived.Test.YtbgbahlipnaflaaGreatZuAL
set_option linter.unusedVariables false
set_option linter.unusedSimpArgs false
section
set_option maxRecDepth 100000
set_option maxHeartbeats 4000000
open Go Go.Proofs Tryz
namespace Go.Abs
def l8 (c:Part)(s:Slot):Int:=c.h[s.node.toNat]?.getD 0
def TS (c:Part)(vs:V2)(F:FM)(s:Slot):FM:=LG F (l8 c s) s.H (dM s.y vs)
def FA (c:Part)(vs:V2)(l:List Slot):FM:=l.foldl (TS c vs) λ_ _=>none
theorem Su (c:Part)(vs:V2)(l:List Slot)(s:Slot):FA c vs (l++[s])=LG (FA c vs l) (l8 c s) s.H (dM s.y vs):=by unfold FA;rw [sJ];rfl
theorem VF (c:Part)(vs:V2)(u v x:Int):∀ (l:List Slot) (F:FM),l.foldl (TS c vs) F u v=some x->(∃ s∈l,l8 c s=u/\s.H=v/\dM s.y vs=x)\/F u v=some x
 | [],F,h=>.inr h
 | s :: l,F,h=>by
  rcases VF c vs u v x l _ h with ⟨s',hs',e⟩|h'
  .exact .inl ⟨s',dS _ hs',e⟩
  .unfold TS LG at h';split at h'
   .rename_i he;exact .inl ⟨s,f8 ..,he.1.symm,he.2.symm,by simpa using h'⟩
   .exact .inr h'
theorem A5 {c:Part}{vs:V2}{l:List Slot}{u v x:Int}(h:FA c vs l u v=some x):∃ s∈l,l8 c s=u/\s.H=v/\dM s.y vs=x:=by
 rcases VF c vs u v x l _ h with h|h
 .exact h
 .cases h
theorem Xi (c:Part)(vs:V2)(u v:Int):∀ (l:List Slot) (F:FM),((∃ s∈l,l8 c s=u/\s.H=v)\/(F u v).isSome=true)->(l.foldl (TS c vs) F u v).isSome=true
 | [],F,h=>h.elim (λ⟨s,hs,_⟩=>by cases hs) id
 | s :: l,F,h=>Xi c vs u v l _ (by
   by_cases he:l8 c s=u/\s.H=v
   .right;unfold TS LG;rw [if_pos ⟨he.1.symm,he.2.symm⟩];rfl
   .rcases h with ⟨s',hs',e⟩|h
    .rcases aV.1 hs' with rfl|h2
     .exact absurd e he
     .exact .inl ⟨s',h2,e⟩
    .right;unfold TS LG;split
     .rfl
     .exact h)
def YD (c:Part)(vs:V2)(l:List Slot):Prop:=∀ s∈l,∀ s'∈l,l8 c s=l8 c s'->s.H=s'.H->dM s.y vs=dM s'.y vs
theorem Rq {c:Part}{vs:V2}{l:List Slot}(h:YD c vs l){s:Slot}(d:s∈l):FA c vs l (l8 c s) s.H=some (dM s.y vs):=by
 have g:=Xi c vs (l8 c s) s.H l (λ_ _=>none) (.inl ⟨s,d,rfl,rfl⟩);obtain ⟨x,f⟩:=gW.1 g;have a:FA c vs l (l8 c s) s.H=some x:=f;obtain ⟨e,b,k,j,i⟩:=A5 a;rw [a,<- i,h e b s d k j]
theorem VH {c:Part}{vs:V2}{l:List Slot}(h:YD c vs l){s:Slot}(m:∀ x,FA c vs l (l8 c s) s.H=some x->x=dM s.y vs):YD c vs (l++[s]):=by
 have d:∀ j∈l,l8 c j=l8 c s->j.H=s.H->dM j.y vs=dM s.y vs:=λj k i g=>by
  have:=Rq h k;rw [i,g] at this;exact m _ this
 intro a f b e i g;rw [aZ,bP] at f e;rcases f with f|rfl<;>rcases e with e|rfl
 .exact h a f b e i g
 .exact d a f i g
 .exact (d b e i.symm g.symm).symm
 .rfl
theorem p8 {c:Part}{s:Slot}:fT c s=(l8 c s).toNat:=rfl
theorem Vo {c:Part}{vs:V2}{l:List Slot}{i:Nat}(e:i<l.length){x:Int}(h:FA c vs (l.take i) (l8 c l[i]) l[i].H=some x)(m:x≠dM l[i].y vs):uE c vs l=true:=by
 obtain ⟨o,a,j,g,f⟩:=A5 h;obtain ⟨k,n,rfl⟩:=aN a;rw [Gx] at j g f;have d:k<i:=by simp at n;omega
 have b:k<l.length:=aD;rw [xL,bB];refine ⟨i,by simpa using e,?_⟩;rw [bB];refine ⟨k,by simpa using d,?_⟩;unfold wC Cf;simp only [aA b,aA e,p8,j,g,f];simp [m]
theorem Rc {c:Part}{vs:V2}{l:List Slot}(g:∀ s∈l,0<=l8 c s)(h:YD c vs l):uE c vs l=false:=by
 rw [xL,bK];intro a;rw [bB] at a;obtain ⟨i,d,a⟩:=a;rw [bB] at a;obtain ⟨k,j,a⟩:=a;rw [aW] at d j;have b:k<l.length:=aD;unfold wC Cf at a;simp only [aA b,aA d,p8,aL,decide_eq_true_eq] at a;obtain ⟨p,n,m⟩:=a;have r:=g _ (aC b);have q:=g _ (aC d);have o:(l8 c l[k]).toNat=(l8 c l[i]).toNat:=of_decide_eq_true p;have f:l[k].H=l[i].H:=by simpa using n
 have e:dM l[k].y vs≠dM l[i].y vs:=by simpa using m
 exact e (h _ (aC b) _ (aC d) aD f)
/-! ### the values that are set -/
def Af (F:FM)(dn:Int->Int->Bool)(vals:Yb):Yb :=
 (List.range vals.length).map λ(n:Nat)=>(List.range (vals[n]?.getD []).length).map λ(a:Nat)=>if dn n a=true then (F n a).getD 0 else (vals[n]?.getD [])[a]?.getD 0
theorem tY (F:FM)(dn:Int->Int->Bool)(vals:Yb):(Af F dn vals).length=vals.length:=by simp [Af]
theorem r9 (F:FM)(dn:Int->Int->Bool)(vals:Yb)(n:Nat):((Af F dn vals)[n]?.getD []).length=(vals[n]?.getD []).length:=by
 unfold Af;by_cases a:n<vals.length
 .simp [aM,mU a]
 .rw [bY (by simp;omega),bY aD]
theorem Ae (F:FM)(dn:Int->Int->Bool)(vals:Yb){n a:Nat}(b:n<vals.length)(c:a<(vals[n]?.getD []).length):((Af F dn vals)[n]?.getD [])[a]?=some (if dn n a=true then (F n a).getD 0 else (vals[n]?.getD [])[a]?.getD 0):=by
 unfold Af;rw [aM,mU b,eD,Option.getD_some,aM,mU c,eD]
theorem Ha {x y:Yb}(i:x.length=y.length)(h:∀ n:Nat,(x[n]?.getD []).length=(y[n]?.getD []).length)(g:∀ n a:Nat,n<y.length->a<(y[n]?.getD []).length->(x[n]?.getD [])[a]?=(y[n]?.getD [])[a]?):x=y:=by
 apply e9 i;intro n j c;have d:x[n]?.getD []=x[n]:=by rw [aA j];rfl
 have b:y[n]?.getD []=y[n]:=by rw [aA c];rfl
 have e:=h n;rw [d,b] at e;apply iF;intro a;by_cases f:a<y[n].length
 .have:=g n a c (by rw [b];exact f);rwa [d,b] at this
 .rw [bY aD,bY aD]
theorem S7 (F:FM)(vals:Yb){dn:Int->Int->Bool}(h:∀ n a:Nat,n<vals.length->a<(vals[n]?.getD []).length->dn n a=false):Af F dn vals=vals:=by
 refine Ha (tY _ _ _) (r9 _ _ _) λn a c b=>?_;rw [Ae _ _ _ c b,if_neg (by rw [h n a c b];simp),aA b];rfl
theorem Ia {vals:Yb}{u:Nat}(a:u<vals.length)(r:V2)(n:Nat):(vals.set u r)[n]?.getD []=if n=u then r else vals[n]?.getD []:=by
 rw [eI];split
 .rename_i h;subst h;simp [a]
 .rename_i h;rw [if_neg (λe=>h e.symm)]
theorem S5 (F:FM)(vals:Yb){dn dn':Int->Int->Bool}{u a:Nat}{x:Int}(i:u<vals.length)(k:a<(vals[u]?.getD []).length)(g:F u a=some x)(j:∀ n b:Nat,n<vals.length->b<(vals[n]?.getD []).length->dn' n b=(dn n b||(decide (n=u)&&decide (b=a)))) :
  (Af F dn vals).set u (((Af F dn vals)[u]?.getD []).set a x)=Af F dn' vals:=by
 have c:u<(Af F dn vals).length:=by rw [tY];exact i
 refine Ha (by rw [jP,tY,tY]) (λn=>?_) λn b d f=>?_
 .rw [Ia c,r9];split
  .rename_i h;subst h;rw [jP,r9]
  .rw [r9]
 .rw [tY] at d;rw [r9] at f;rw [Ia c,Ae _ _ _ d f,j n b d f];split
  .rename_i h;subst h;rw [eI];by_cases e:a=b
   .subst e;rw [if_pos rfl,if_pos (by rw [r9];exact k),if_pos aE,g];rfl
   .rw [if_neg e,Ae _ _ _ d f];congr 1;rw [show decide (b=a)=false by simp;omega,Bool.and_false,sL]
  .rename_i h;rw [Ae _ _ _ d f];congr 1;rw [show decide (n=u)=false by simp;omega,Fz,sL]
theorem Hw {c:Part}{vs:V2}(vals:Yb):∀ (i:Nat) (l:List Slot),l.length=i->(∀ s∈l,0<=l8 c s/\fT c s<vals.length/\0<=s.H/\s.H<(vals[fT c s]?.getD []).length) ->
  ∀ n a:Nat,n<vals.length->a<(vals[n]?.getD []).length->((uQ c vs l vals)[n]?.getD [])[a]?=some ((FA c vs l n a).getD ((vals[n]?.getD [])[a]?.getD 0))
 | 0,l,hl,hp,n,a,hn,ha=>by
  have:l=[]:=bJ hl;subst this;show (vals[n]?.getD [])[a]?=_;rw [aA ha];rfl
 | i+1,l,hl,hp,n,a,hn,ha=>by
  obtain ⟨l',s,rfl⟩:∃ l' s,l=l'++[s]:=⟨l.dropLast,l.getLast (by intro e;rw [e] at hl;cases hl),(List.dropLast_concat_getLast _).symm⟩;have ih:=Hw (c:=c) (vs:=vs) vals i l' (by simp at hl;exact hl) (λs' hs'=>hp s' (List.mem_append_left _ hs'));obtain ⟨p1,p2,p3,p4⟩:=hp s aE;obtain ⟨q1,q2⟩:=qC c vs l' vals;rw [Kn,Su,Ia aD];unfold LG;split
  .rename_i h;rw [eI];by_cases hsa:s.H.toNat=a
   .rw [if_pos hsa,if_pos (by rw [q2];omega),if_pos ⟨by rw [h,p8];omega,aD⟩];rfl
   .rw [if_neg hsa,if_neg aD,<- h];exact ih n a hn ha
  .rename_i h;rw [if_neg (by rw [p8] at h;omega)];exact ih n a hn ha
theorem S6 {c:Part}{vs:V2}{vals:Yb}{l:List Slot}(g:∀ s∈l,0<=l8 c s/\fT c s<vals.length/\0<=s.H/\s.H<(vals[fT c s]?.getD []).length)
  {dn:Int->Int->Bool} (h:∀ n a:Nat,n<vals.length->a<(vals[n]?.getD []).length->dn n a=(FA c vs l n a).isSome):Af (FA c vs l) dn vals=uQ c vs l vals:=by
 obtain ⟨f,e⟩:=qC c vs l vals;refine Ha (by rw [tY,f]) (λn=>by rw [r9,e]) λn a b d=>?_;rw [f] at b;rw [e] at d;rw [Ae _ _ _ b d,Hw vals _ l rfl g n a b d,h n a b d];cases FA c vs l n a<;>simp
@[go_sem] theorem Yp:rM (Value.map none)=.junk:=rfl
@[go_sem] theorem aaO:jW (.const (Value.map none))=false:=rfl
theorem UL:MapT prog 305 309 3 :=
 Wm underlying305 underlying3 underlying309 ⟨rfl,rfl,rfl⟩ ⟨rfl,rfl,rfl⟩ (by kernel_rfl) (by kernel_rfl) (by kernel_rfl) ⟨prog.types.size - 1,by have:0<prog.types.size:=of_decide_eq_true (by kernel_rfl);omega⟩
  (Maps.Keyed.of_law (deep_law_laid (m:=2) (by kernel_rfl) aD (of_decide_eq_true (by kernel_rfl)) (by kernel_rfl) (by kernel_rfl))) (λw=>by kernel_rfl)
def ae6 (co:Part)(vs:V2)(l:List Slot)(G:AHeap)(d:D)(H':AHeap)(g:MS):Prop :=
 (∀ j,j<G.next->H'.get j=G.get j)/\G.next<=H'.next /\
  ((uE co vs l=true/\∃ q,d=.tup [q,dI 11])\/(uE co vs l=false/\∃ b k,d=.tup [.cst (.map (some b)),dI 0]/\g=.mp b k (FA co vs l)))
theorem I9 (t:Types)(r:Rule)(hR:RuleV t r)(m:Mat)(h:Host)(x0:Host)(tr p:Part)(hP:PutOk t r x0 p)(O:m.vars.length=r.left.vars.toNat)(N:Sm m.vars)(a b0 V na nb nV:Nat)(G:AHeap) :
  GCalls prog 309 3 253 [.agg (stpC r m h (.own a na) (.own b0 nb) (.own V nV) tr p)] G (ae6 p m.vars r.right.o G):=by
 obtain ⟨l,hl⟩:=c6 (r.right.o);have Q:=hR.o;have W:=hR.b5;have f:=hP.spot;have u:=hP.H;have a6:=hP.Q;have a8:=hP.b5;rw [<- hl] at Q W f u ⊢;refine Ar func253 rfl rfl (by exact aF rfl) ?_;refine d9 λK0 k0=>?_;refine g8 (c:=⟨λt=>t==6||t==9,λr=>match r with|8=>[(0,10),(1,10),(2,10),(3,10),(4,10),(5,10),(6,10),(7,10),(8,10)]|_=>[]⟩) Tz.mixed (by kernel_rfl) ?_;simp [go_sem,seval,stpC];repeat first|intro _|refine ⟨fS,?_⟩
 refine k0 _ _ _ ?_;clear k0 K0;refine d9 λE q=>?_;refine WpG.region (OpsG.make UL rfl rfl rfl λb=>?_);refine OpsG.all (md:=λ_=>false) rfl λR n=>?_;simp [go_sem,seval];refine n _ _ (q _ _ _ ?_);clear n R q E;refine d9 λK3 k3=>?_;refine d9 λz d=>?_;refine g8 (c:=⟨λt=>t==6||t==9,λr=>match r with|8=>[(0,10),(1,10),(2,10),(3,10),(4,10),(5,10),(6,10),(7,10),(8,10)]|_=>[]⟩) Tz.mixed (by kernel_rfl) ?_;simp [go_sem,seval];repeat first|intro _|refine ⟨fS,?_⟩
 refine d _ _ _ ?_;clear d z;refine WpG.block ?_;obtain ⟨I,hI⟩:∃ I:Nat->MS->eB->AHeap->Prop,∀ i g e H,I i g e H↔(e 1=.adr (stpC r m h (.own a na) (.own b0 nb) (.own V nV) tr p)/\e 4=.cst (.map (some b))/\e 16=.list (l.map Slot.c)/\e 17=dI l.length/\e 18=dI i/\i<=l.length/\(∃ k,k<=i/\g=.mp b k (FA p m.vars (l.take i)))/\YD p m.vars (l.take i)/\(∀ j,j<G.next->H.get j=G.get j)/\G.next<=H.next):=⟨_,λ_ _ _ _=>Iff.rfl⟩;refine WpG.loop I (λi=>l.length - i) 0 ((hI _ _ _ _).2 ⟨by simp [go_sem,stpC,dLI],by simp [go_sem],by simp [go_sem,hl],by simp [go_sem,hl],by simp [go_sem],aD,⟨0,aD,by simp [FA]⟩,by intro s hs;simp at hs,by intro j hj;simp [go_sem],by simp [go_sem]⟩) λi g e H a3=>?_;obtain ⟨q1,q4,K,J,B,hi,⟨k,hk,rfl⟩,hE,hG,a0⟩:=(hI _ _ _ _).1 a3;refine d9 λE q=>?_;refine g8 (c:=⟨λt=>t==6||t==9,λr=>match r with|8=>[(0,10),(1,10),(2,10),(3,10),(4,10),(5,10),(6,10),(7,10),(8,10)]|_=>[]⟩) Tz.mixed (by kernel_rfl) ?_;simp [go_sem,seval,J,B];repeat first|intro _|refine ⟨fS,?_⟩
 refine q _ _ _ ?_;clear q E;refine d9 λE q=>?_;refine WpG.cond (t:=decide (i<l.length)) (by simp [go_sem]) (λh3=>?_) (λh3=>?_)
 .refine WpG.skip ?_;simp only [go_sem];refine q _ _ _ ?_;clear q E;have w:i<l.length:=of_decide_eq_true h3;obtain ⟨x,F⟩:=c6 (l[i]);have C:x∈l:=F ▸ aC w;obtain ⟨⟨n1,n2⟩,⟨a1,a2⟩,hT⟩:=Q x C;obtain ⟨s1,s2,s3⟩:=f x C;obtain ⟨t1,t2⟩:=u x C;have S:x.node.toNat<p.h.length:=aD;have U:l8 p x=p.h[x.node.toNat]:=by unfold l8;rw [aA S];rfl
  have a7:=GL (vs:=m.vars) (by rw [O];exact hT) N;have Y:DP (l8 p x):=by rw [p8] at s2;exact ⟨by unfold l8;omega,by unfold l8 at *;omega⟩
  have X:DP x.H:=⟨aD,by have:=n5 hR.vf (x0.i.h[fT p x]?.getD 0);omega⟩;have a4:DP (dM x.y m.vars):=⟨aD,aD⟩;obtain ⟨v,P⟩:=c6 (dM x.y m.vars);refine d9 λE q=>?_;refine WpG.block ?_;refine d9 λz d=>?_;refine g8 (c:=⟨λt=>t==6||t==9,λr=>match r with|8=>[(0,10),(1,10),(2,10),(3,10),(4,10),(5,10),(6,10),(7,10),(8,10)]|_=>[]⟩) Tz.mixed (by kernel_rfl) ?_;simp [go_sem,seval,K,B,aA w,<- F,Slot.c];repeat first|intro _|refine ⟨fS,?_⟩
  refine d _ _ _ ?_;clear d z;refine d9 λz d=>?_;refine g8 (c:=⟨λt=>t==6||t==9,λr=>match r with|8=>[(0,10),(1,10),(2,10),(3,10),(4,10),(5,10),(6,10),(7,10),(8,10)]|_=>[]⟩) Tz.mixed (by kernel_rfl) ?_;simp [go_sem,seval,q1,stpC,Slot.c];repeat first|intro _|refine ⟨fS,?_⟩
  refine aB (by have hq:=n7 x.y m.vars (by rw [O];exact hT) N;rw [<- P] at hq;unfold Term.c dLI at hq;exact hq) (by first|rfl|(simp [go_sem];done)) ?_;simp [go_sem,seval];repeat first|intro _|refine ⟨fS,?_⟩
  refine d _ _ _ ?_;clear d z;refine d9 λz d=>?_;refine d9 λZ A=>?_;refine g8 (c:=⟨λt=>t==6||t==9,λr=>match r with|8=>[(0,10),(1,10),(2,10),(3,10),(4,10),(5,10),(6,10),(7,10),(8,10)]|_=>[]⟩) Tz.mixed (by kernel_rfl) ?_;simp [go_sem,seval];refine A _ _ _ ?_;clear A Z;refine WpG.cond (t:=false) (by simp [go_sem]) (λh=>by cases h) (λ_=>WpG.skip ?_);simp only [go_sem];refine d _ _ _ ?_;clear d z;refine d9 λz d=>?_;refine g8 (c:=⟨λt=>t==6||t==9,λr=>match r with|8=>[(0,10),(1,10),(2,10),(3,10),(4,10),(5,10),(6,10),(7,10),(8,10)]|_=>[]⟩) Tz.mixed (by kernel_rfl) ?_;simp [go_sem,seval,q1,stpC,Slot.c,aA S,<- U];repeat first|intro _|refine ⟨fS,?_⟩
  refine d _ _ _ ?_;clear d z;refine d9 λz d=>?_;refine d9 λZ A=>?_;refine WpG.region ?_;refine OpsG.take (md:=λt=>t==6||t==9) 2 rfl λR n=>?_;simp [go_sem,seval,q4];repeat first|intro _|refine ⟨fS,?_⟩
  refine n _ _ ?_;clear n R;refine TX (T:=305) UL rfl rfl rfl rfl (by simp [go_sem]) (by simp [go_sem]) Y X ?_;refine OpsG.all (md:=λt=>t==6||t==9) rfl λR n=>?_;simp [go_sem,seval];repeat first|intro _|refine ⟨fS,?_⟩
  refine n _ _ (A _ _ _ ?_);clear n R A Z;obtain ⟨o,ho⟩:=c6 (FA p m.vars (l.take i) (l8 p x) x.H);refine d9 λZ A=>?_;refine g8 (c:=⟨λt=>t==6||t==9,λr=>match r with|8=>[(0,10),(1,10),(2,10),(3,10),(4,10),(5,10),(6,10),(7,10),(8,10)]|_=>[]⟩) Tz.mixed (by kernel_rfl) ?_;simp [go_sem,seval,<- ho];repeat first|intro _|refine ⟨fS,?_⟩
  refine A _ _ _ ?_;clear A Z;refine WpG.cond (t:=o.isSome&&o.getD 0 != v) (by simp [go_sem]) (λD=>?_) (λD=>?_)
  .refine d9 λK5 L=>?_;refine g8 (c:=⟨λt=>t==6||t==9,λr=>match r with|8=>[(0,10),(1,10),(2,10),(3,10),(4,10),(5,10),(6,10),(7,10),(8,10)]|_=>[]⟩) Tz.mixed (by kernel_rfl) ?_;simp [go_sem,seval];refine L _ _ _ ?_;clear L K5;refine WpG.ret ?_;simp [go_sem,SP];refine ⟨λj hj=>?_,?_,.inl ⟨?_,_,rfl⟩⟩
   .have fr1:=cW (aD:j<H.next);simp [go_sem,fr1];exact hG j hj
   .simp [go_sem];omega
   .rw [aL] at D;obtain ⟨y,M⟩:=gW.1 D.1;refine Vo w (x:=y) (by rw [<- F,<- ho,M]) (λe=>?_);have h2:=D.2;rw [M,<- F,<- P] at *;simp [e] at h2
  .refine WpG.skip ?_;simp only [go_sem];refine d _ _ _ ?_;clear d z;refine WpG.region ?_;refine OpsG.take (md:=λt=>t==6||t==9) 3 rfl λR n=>?_;simp [go_sem,seval,q4];repeat first|intro _|refine ⟨fS,?_⟩
   refine n _ _ ?_;clear n R;refine OpsG.store (T:=305) (c:=v) UL rfl rfl rfl rfl (by simp [go_sem]) (by simp [go_sem]) (by simp [go_sem]) Y X (P ▸ a4) aD ?_;refine OpsG.all (md:=λt=>t==6||t==9) rfl λR n=>?_;simp [go_sem,seval];refine n _ _ ?_;clear n R;simp only [go_sem];refine q _ _ _ ?_;clear q E;refine g8 (c:=⟨λt=>t==6||t==9,λr=>match r with|8=>[(0,10),(1,10),(2,10),(3,10),(4,10),(5,10),(6,10),(7,10),(8,10)]|_=>[]⟩) Tz.mixed (by kernel_rfl) ?_;simp [go_sem,seval,B];repeat first|intro _|refine ⟨fS,?_⟩
   refine ⟨i+1,aD,(hI _ _ _ _).2 ⟨by simp [go_sem,q1],by simp [go_sem,q4],by simp [go_sem,K],by simp [go_sem,J],by simp [go_sem],aD,⟨k+1,aD,by rw [List.take_succ_eq_append_getElem w,Su,<- F,P]⟩,?_,λj hj=>?_,by simp [go_sem];omega⟩⟩
   .rw [List.take_succ_eq_append_getElem w,<- F];refine VH hE λy M=>?_;rw [<- ho] at M;rw [M] at D;simp at D;rw [D,P]
   .have fr1:=cW (aD:j<H.next);simp [go_sem,fr1];exact hG j hj
 .refine WpG.exit ?_;simp [go_sem];refine k3 _ _ _ ?_;have a5:i=l.length:=by have:=of_decide_eq_false h3;omega
  rw [aG aD] at hE ⊢;refine d9 λK5 L=>?_;refine g8 (c:=⟨λt=>t==6||t==9,λr=>match r with|8=>[(0,10),(1,10),(2,10),(3,10),(4,10),(5,10),(6,10),(7,10),(8,10)]|_=>[]⟩) Tz.mixed (by kernel_rfl) ?_;simp [go_sem,seval,q4];refine L _ _ _ ?_;clear L K5;refine WpG.ret ?_;simp [go_sem,SP];refine ⟨hG,a0,.inr ⟨Rc (λs hs=>(f s hs).1) hE,b,k,by simp [go_sem],rfl⟩⟩
theorem QZ {c:Part}{vs:V2}{l:List Slot}(h:uE c vs l=false):YD c vs l:=by
 rw [xL] at h;have a:∀ (p q:Nat) (d:p<q) (b:q<l.length),l8 c l[p]=l8 c l[q]->l[p].H=l[q].H->dM l[p].y vs=dM l[q].y vs:=λp q d b f e=>by
  refine aY λn=>?_;have:((List.range l.length).any λi=>(List.range i).any λk=>wC c vs l i k)=true:=by
   rw [bB];refine ⟨q,by simpa using b,?_⟩;rw [bB];refine ⟨p,by simpa using d,?_⟩;unfold wC Cf;simp only [aA (aD:p<l.length),aA b,p8,f,e];simp [n]
  rw [h] at this;cases this
 intro s j o g f e;obtain ⟨p,m,rfl⟩:=aN j;obtain ⟨q,b,rfl⟩:=aN g;rcases Nat.lt_trichotomy p q with h1|h1|h1
 .exact a p q h1 b f e
 .subst h1;rfl
 .exact (a q p h1 m f.symm e.symm).symm
theorem SF (t:Types)(ht:t.ok)(r:Rule)(hR:RuleV t r)(m:Mat)(h o:Host)(tr p:Part)(hP:PutOk t r o p)(d3:m.vars.length=r.left.vars.toNat)(d1:Sm m.vars)(G:AHeap)(s a b0 V:Nat)(S:List Nat)
  (hs:G.get s=some ⟨57,38,[stpC r m h (.own a o.i.h.length) (.own b0 o.i.j.length) (.own V o.k.length) tr p],false⟩) (c5:HH G 0 a b0 V S o) (d7:∀ j∈a :: b0 :: V :: S,j≠s) (d8:s<G.next) (Q:D->AHeap->Prop)
  (a2:∀ H',r8 t o.i p m.vars r.right.o≠0->(∀ j,j<G.next->j∉a :: b0 :: V :: S->H'.get j=G.get j)->G.next<=H'.next->Q (dI (r8 t o.i p m.vars r.right.o)) H')
  (hQ:∀ H',r8 t o.i p m.vars r.right.o=0->HH H' 0 a b0 V S ⟨o.i,uQ p m.vars r.right.o o.k⟩->(∀ j,j<G.next->j∉a :: b0 :: V :: S->H'.get j=G.get j)->G.next<=H'.next->Q (dI 0) H') :
  ACalls prog 162 [t.d,.ptr s 1 0 0] G Q:=by
 obtain ⟨l,hl⟩:=c6 (r.right.o);have hA:=I9 t r hR m h o tr p hP d3 d1 a b0 V o.i.h.length o.i.j.length o.k.length G;have a3:=hR.o;have A:=hP.spot;have L:=hP.H;have g4:=hP.b5;rw [<- hl] at a3 A L a2 hQ hA;refine JV (P:=prog) (K:=309) (E:=3) (Q:=λd H' _=>Q d H') ?_ (λ_ _ _ h=>h);refine Ar func162 rfl rfl (by exact aF rfl) ?_;refine d9 λO B=>?_;refine g8 (c:=⟨λt=>t==7,λ_=>[]⟩) Tz.mixed (by kernel_rfl) ?_;simp [go_sem,seval];refine B _ _ _ ?_;clear B O;refine d9 λO B=>?_;refine WpG.region ?_;refine OpsG.take (md:=λt=>t==7) 3 rfl λR J=>?_;simp [go_sem,seval,hs,stpC];repeat first|intro _|refine ⟨fS,?_⟩
 refine J _ _ ?_;clear J R;refine OpsG.call (f:=253) (args:=[.agg (stpC r m h (.own a o.i.h.length) (.own b0 o.i.j.length) (.own V o.k.length) tr p)]) (by simp [go_sem,iL,stpC]) rfl rfl hA λd H1 g1 hq=>?_;obtain ⟨b5,a9,b3⟩:=hq;rcases b3 with ⟨a1,q,rfl⟩|⟨a1,b,k,rfl,rfl⟩
 .refine OpsG.all (md:=λt=>t==7) rfl λR J=>?_;simp [go_sem,seval];repeat first|intro _|refine ⟨fS,?_⟩
  refine J _ _ (B _ _ _ ?_);clear J R B O;refine d9 λK2 k2=>?_;refine d9 λK4 U=>?_;refine g8 (c:=⟨λt=>t==7,λ_=>[]⟩) Tz.mixed (by kernel_rfl) ?_;simp [go_sem,seval];refine U _ _ _ ?_;clear U K4;refine WpG.cond (t:=true) (by simp [go_sem]) (λ_=>?_) (λhc=>by cases hc);refine d9 λK5 k5=>?_;refine g8 (c:=⟨λt=>t==7,λ_=>[]⟩) Tz.mixed (by kernel_rfl) ?_;simp [go_sem,seval];refine k5 _ _ _ ?_;clear k5 K5;refine WpG.ret ?_;simp [go_sem,SP];have hE:r8 t o.i p m.vars l=11:=by unfold r8;rw [if_pos a1]
  rw [hE] at a2;exact a2 _ (by decide) (λj Z _=>b5 j Z) a9
 .refine OpsG.all (md:=λt=>t==7) rfl λR J=>?_;simp [go_sem,seval];repeat first|intro _|refine ⟨fS,?_⟩
  refine J _ _ (B _ _ _ ?_);clear J R B O;refine d9 λK2 k2=>?_;refine d9 λK4 U=>?_;refine g8 (c:=⟨λt=>t==7,λ_=>[]⟩) Tz.mixed (by kernel_rfl) ?_;simp [go_sem,seval];refine U _ _ _ ?_;clear U K4;refine WpG.cond (t:=false) (by simp [go_sem]) (λhc=>by cases hc) (λ_=>WpG.skip ?_);simp only [go_sem];refine k2 _ _ _ ?_;clear k2 K2;have a5:r8 t o.i p m.vars l=if l.any (yC t o.i p m.vars)=true then 6 else 0:=by unfold r8;rw [if_neg (by rw [a1];simp)]
  refine d9 λK3 k3=>?_;refine d9 λK4 U=>?_;refine WpG.region ?_;refine OpsG.take (md:=λt=>t==7) 1 rfl λR J=>?_;simp [go_sem,seval];refine J _ _ ?_;clear J R;refine OpsG.range (T:=305) UL rfl rfl rfl rfl (by simp [go_sem]) λrr wB=>?_;refine OpsG.nil (U _ _ _ ?_);clear U K4;have N:∀ x∈l,DP (l8 p x)/\DP x.H:=λx M=>by
   obtain ⟨s1,s2,s3⟩:=A x M;obtain ⟨t1,t2⟩:=L x M;have:=n5 hR.vf (o.i.h[fT p x]?.getD 0);have h0:=(a3 x M).2.1.1;rw [p8] at s2;exact ⟨⟨by unfold l8;omega,by unfold l8 at *;omega⟩,aD,aD⟩
  refine WpG.block ?_;obtain ⟨F,hF⟩:=c6 (FA p m.vars l);rw [<- hF];obtain ⟨I,hI⟩:∃ I:Nat->MS->eB->AHeap->Prop,∀ i g e H,I i g e H↔(∃ z d0,g=.rg b rr F z i d0/\e 1=.ptr s 1 0 0/\e 2=.adr t.c/\e 22=.cst (Fd rr) /\
   HH H 0 a b0 V S ⟨o.i,Af F (λu v=>(F u v).isSome&&!z u v) o.k⟩/\(∀ x∈l,z (l8 p x) x.H=false->yC t o.i p m.vars x=false)/\(∀ j,j<G.next->j∉a :: b0 :: V :: S->H.get j=G.get j)/\G.next<=H.next):=⟨_,λ_ _ _ _=>Iff.rfl⟩
  refine WpG.loop I (λi=>i) wB ((hI _ _ _ _).2 ⟨_,_,rfl,by simp [go_sem],by simp [go_sem],by simp [go_sem],?_,?_,λj Z _=>b5 j Z,a9⟩) λi g e H e8=>?_
  .rw [S7]
   .exact c5.same a9 (λj Z=>b5 j (c5.W j Z).2)
   .intro n v _ _;cases F n v<;>rfl
  .intro x M hf;have:=Rq (c:=p) (vs:=m.vars) (l:=l) (s:=x) (QZ a1) M;rw [<- hF] at this;rw [this] at hf;cases hf
  obtain ⟨z,d0,rfl,q1,q2,a6,hh,hO,hG,e4⟩:=(hI _ _ _ _).1 e8;refine d9 λO B=>?_;refine WpG.region ?_;refine OpsG.next UL rfl rfl rfl (by simp [go_sem,a6]) (λhd=>?_) (λu v c i' hu hv f9 b6 e6=>?_)
  .refine OpsG.all (md:=λt=>t==7) rfl λR J=>?_;simp [go_sem,seval];refine J _ _ (B _ _ _ ?_);clear J R B O;refine d9 λO B=>?_;refine WpG.cond (t:=false) (by simp [go_sem]) (λhc=>by cases hc) (λ_=>WpG.exit ?_);simp [go_sem];refine k3 _ _ _ ?_;refine d9 λK5 k5=>?_;refine g8 (c:=⟨λt=>t==7,λ_=>[]⟩) Tz.mixed (by kernel_rfl) ?_;simp [go_sem,seval];refine k5 _ _ _ ?_;clear k5 K5;refine WpG.ret ?_;simp [go_sem,SP];have c9:l.any (yC t o.i p m.vars)=false:=by
    rw [bK];intro hT;obtain ⟨x,M,hT⟩:=bB.1 hT;rw [hO x M (hd _ _ (N x M).1 (N x M).2)] at hT;cases hT
   rw [if_neg (by rw [c9];simp)] at a5;have hV:=S6 (c:=p) (vs:=m.vars) (vals:=o.k) (l:=l) (λx M=>⟨(A x M).1,(A x M).2.1,(a3 x M).2.1.1,(L x M).1⟩) (dn:=λu v=>(F u v).isSome&&!z u v) (λn v _ _=>by
    rw [<- hF];cases f3:F n v with
    | none=>rfl
    | some y =>
     obtain ⟨x,M,e1,e2,_⟩:=A5 (c:=p) (vs:=m.vars) (l:=l) (by rw [<- hF];exact f3);have:=hd _ _ (N x M).1 (N x M).2;rw [e1,e2] at this;simp [this])
   rw [<- hF] at hV;rw [hV] at hh;exact hQ _ a5 hh hG e4
  .refine OpsG.all (md:=λt=>t==7) rfl λR J=>?_;simp [go_sem,seval];refine J _ _ (B _ _ _ ?_);clear J R B O;refine d9 λO B=>?_;refine WpG.cond (t:=true) (by simp [go_sem]) (λ_=>WpG.skip ?_) (λhc=>by cases hc);simp only [go_sem];refine B _ _ _ ?_;clear B O;refine WpG.block ?_;refine d9 λO B=>?_;refine WpG.region ?_;refine OpsG.entry rfl rfl rfl (by simp [go_sem,a6]) ?_;refine OpsG.all (md:=λt=>t==7) rfl λR J=>?_;simp [go_sem,seval];repeat first|intro _|refine ⟨fS,?_⟩
   refine J _ _ (B _ _ _ ?_);clear J R B O;obtain ⟨x,W,e1,e2,e3⟩:=A5 (c:=p) (vs:=m.vars) (l:=l) (by rw [<- hF];exact b6);obtain ⟨s1,s2,s3⟩:=A x W;obtain ⟨t1,t2⟩:=L x W;have a0:=(a3 x W).2.1.1;obtain ⟨n,hn⟩:=c6 (fT p x);rw [<- hn] at s2 s3 t1 t2;have d4:u=(n:Int):=by rw [<- e1,hn,p8];unfold l8 at *;omega
   subst d4;obtain ⟨w,hw⟩:∃ w:Nat,v=(w:Int):=⟨v.toNat,aD⟩;subst hw;have c0:H.get s=some ⟨57,38,[stpC r m h (.own a o.i.h.length) (.own b0 o.i.j.length) (.own V o.k.length) tr p],false⟩:=by rw [hG s d8 (λhm=>d7 s hm rfl)];exact hs
   have e9:=hh.ga;have c8:=hh.gV;have f7:=hh.W a hh.bq;have f8:=hh.W V hh.bw;obtain ⟨nd,c2⟩:∃ y,y=o.i.h[n]:=⟨_,rfl⟩;have Y:o.i.h[n]?.getD 0=nd:=by rw [c2,aA s3];rfl
   rw [Y] at t2;have b4:w<(bQ t nd).length:=aD;have b7:=xa1 (cW (aD:s<H.next)) (cW (aD:a<H.next)) (cW (aD:V<H.next));have g3:=rQ ht nd;refine d9 λO B=>?_;refine g8 (c:=⟨λt=>t==7,λ_=>[]⟩) Tz.mixed (by kernel_rfl) ?_;simp [go_sem,seval,q1,q2,c0,e9,stpC,b7,aA s3,<- c2];repeat first|intro _|refine ⟨fS,?_⟩
   refine aI (nO t ht nd) (by first|rfl|(simp [go_sem];done)) ?_;simp [go_sem,seval];repeat first|intro _|refine ⟨fS,?_⟩
   refine B _ _ _ ?_;clear B O;refine d9 λK2 k2=>?_;refine d9 λK4 U=>?_;refine g8 (c:=⟨λt=>t==7,λ_=>[]⟩) Tz.mixed (by kernel_rfl) ?_;simp [go_sem,seval,b7,aA b4,Attr.c];repeat first|intro _|refine ⟨fS,?_⟩
   refine U _ _ _ ?_;clear U K4;have C:=hh;obtain ⟨dn,b1⟩:=c6 (λu v=>(F u v).isSome&&!z u v);rw [<- b1] at C;have b9:(Af F dn o.k).length=o.k.length:=tY ..;have c4:n<(Af F dn o.k).length:=aD;have e5:n<S.length:=by rw [C.len];exact c4
   obtain ⟨q,hq⟩:=c6 (S[n]);obtain ⟨vr,d2⟩:∃ v,v=(Af F dn o.k)[n]:=⟨_,rfl⟩;have g1:S[n]?=some q:=by rw [aA e5,hq]
   have g2:(Af F dn o.k)[n]?=some vr:=by rw [aA c4,d2]
   have c1:=tE g1 g2;have c7:=C.gq _ _ _ g1 g2;have b8:vr.length=(o.k[n]?.getD []).length:=by rw [<- r9 F dn o.k n,g2];rfl
   have a8:w<vr.length:=aD;have X:q∈S:=aK g1;have f5:=C.W q (C.bi X);have e0:=j9 C.len;rw [<- b1] at c8;have f4:=cW (aD:q<H.next);have f2:yC t o.i p m.vars x=(decide (c<(bQ t nd)[w].ap)||decide ((bQ t nd)[w].a8<c)):=by
    unfold yC;rw [<- hn,Y,(aD:x.H.toNat=w),aA b4,e3];rfl
   refine WpG.cond (t:=decide (c<(bQ t nd)[w].ap)||decide ((bQ t nd)[w].a8<c)) (by simp [go_sem]) (λf0=>?_) (λf1=>WpG.skip ?_)
   .refine d9 λK5 k5=>?_;refine g8 (c:=⟨λt=>t==7,λ_=>[]⟩) Tz.mixed (by kernel_rfl) ?_;simp [go_sem,seval];refine k5 _ _ _ ?_;clear k5 K5;refine WpG.ret ?_;simp [go_sem,SP];have hT:l.any (yC t o.i p m.vars)=true:=bB.2 ⟨_,W,by rw [f2];exact f0⟩;rw [if_pos hT] at a5;rw [a5] at a2;refine a2 _ (by decide) (λj Z a4=>?_) (by first|(simp [go_sem];done)|(simp [go_sem];omega));simp [go_sem,(aD:j≠H.next)];exact hG j Z a4
   .simp only [go_sem];refine k2 _ _ _ ?_;clear k2 K2;refine g8 (c:=⟨λt=>t==7,λ_=>[]⟩) Tz.mixed (by kernel_rfl) ?_;have c3:n<o.k.length:=aD;have f6:=C.qn X;simp [go_sem,seval,q1,c0,c8,stpC,b7,f4,c1,c7,e0,b9];refine ⟨c3,a8,?_⟩;simp [go_sem,aA a8,cI];repeat first|intro _|refine ⟨fS,?_⟩
    refine ⟨i',e6,(hI _ _ _ _).2 ⟨_,_,rfl,by simp [go_sem,q1],by simp [go_sem,q2],by simp [go_sem,a6],?_,?_,?_,by first|(simp [go_sem];done)|(simp [go_sem];omega)⟩⟩
    .have hst:=S5 F o.k (dn:=dn) (dn':=λu v=>(F u v).isSome&&!(z u v&&(!decide (u=(n:Int))||!decide (v=(w:Int))))) c3 (by rw [<- b8];exact a8) b6 (λn2 b2 _ _=>by
      rw [b1];by_cases e1:n2=n
      .by_cases e2:b2=w
       .subst e1;subst e2;simp [b6]
       .have e3':¬ ((b2:Int)=w):=aD;subst e1;simp [e2,e3']
      .have e3':¬ ((n2:Int)=n):=aD;simp [e1,e3'])
     rw [g2] at hst;rw [<- hst];exact C.ea (by first|(simp [go_sem];done)|(simp [go_sem];omega)) g1 g2 aE (by simp [go_sem,c7,dB,cI]) (λj Z e7=>by
      have g0:=(C.W j Z).2;simp [go_sem,e7,(aD:j≠H.next)])
    .intro y hy hyf;cases hL:z (l8 p y) y.H with
     | false=>exact hO y hy hL
     | true =>
      have a7:l8 p y=(n:Int)/\y.H=(w:Int):=by rw [hL] at hyf;simpa using hyf
      have d6:fT p y=n:=by rw [p8,a7.1];rfl
      have d5:dM y.y m.vars=c:=by rw [<- e3];exact QZ a1 y hy x W (by rw [a7.1,e1]) (by rw [a7.2,e2])
      unfold yC;rw [d6,Y,(aD:y.H.toNat=w),aA b4,d5];exact f1
    .intro j Z a4;simp [go_sem,(aD:j≠H.next),show j≠q from λe=>a4 (e ▸ C.bi X)];exact hG j Z a4
theorem WL {d:V2}(c:d.Pairwise (· < ·)){n:Nat}{x:Int}(f:0<=x)(e:x<n)(b:x∈d):∃ p:Nat,p<d.length/\(mH d n)[x.toNat]?=some (p:Int):=by
 obtain ⟨p,a,rfl⟩:=aN b;refine ⟨p,a,?_⟩;rw [pT _ aD,show ((d[p].toNat:Nat):Int)=d[p] by omega,qS (i7 c) a]
theorem Vv {a d:V2}{n:Nat}(i:d.Pairwise (· < ·)){k:Int}(l:0<=k)(j:k<a.length)(c:0<=iA a k/\iA a k<n)(g:iA a k∈d):∃ p:Nat,p<d.length/\(pY a (oP d n))[k.toNat]?.getD 0=p:=by
 obtain ⟨p,f,h⟩:=WL i c.1 c.2 g;have b:k.toNat<a.length:=aD;have e:iA a k=a[k.toNat]:=by unfold iA;rw [aA b];rfl
 refine ⟨p,f,?_⟩;unfold pY oP;rw [aM,aA b,eD,Option.getD_some,<- e,h];rfl
theorem La {keep a at_:V2}{b:Nat}(d:a.Nodup)(o:keep.length=a.length)(l:∀ k∈keep,∃ p:Nat,p<b/\at_[k.toNat]?.getD 0=p)(i:Nat) :
  Iu keep a at_ b i=((b+(bG a i).length:Nat):Int)↔mem a i=false:=by
 have f:=Ll d (i:Int);have j:=DB a i a.length;unfold Iu;cases g:mem a i with
 | true =>
  rw [g] at f;have m:¬ gY a a.length i<0:=by simpa using f
  have c:(gY a a.length i).toNat<keep.length:=aD;obtain ⟨p,n,h⟩:=l _ (aC c);rw [if_pos aD,aA c,Option.getD_some,h];constructor
  .intro e;omega
  .intro e;cases e
 | false =>
  rw [g] at f;have m:gY a a.length i<0:=by simpa using f
  rw [if_neg aD,Mf d];simp
theorem Sg {keep b at_:V2}{a c i:Nat}(h:i<a):(DQ keep b at_ a c)[i]?.getD 0=Iu keep b at_ c i:=by
 unfold DQ;simp [h]
section
variable {t:Types} {r:Rule} {h:Host} {m:Mat}
theorem StepIn.e0 (S:StepIn t r h m){k:Int}(a:k∈r.q.j):iA m.m.j k∈(bW r h m).j:=by
 have c:=S.hR.q;have g:=S.hm.cb;have b:=c.2.2.1 k a;have f:=w6 S.fj.2 b.1 aD a;rw [S.cG];have d:=S.hm.dm k.toNat aD;have e:iA m.m.j k=m.m.j[k.toNat]' aD:=by unfold iA;rw [aA aD];rfl
 exact dV.2 ⟨by rw [e];exact d,f⟩
theorem StepIn.kN (S:StepIn t r h m):∀ k∈r.q.h,(0<=k/\k<m.m.h.length)/\(0<=iA m.m.h k/\iA m.m.h k<h.i.h.length)/\∃ p:Nat,p<(bW r h m).h.length/\(pY m.m.h (dG r h m).h)[k.toNat]?.getD 0=p:=λk hk=>by
 have hr:=S.hR.q.2.1 k hk;have hl:=S.hm.len;have hi:=S.cx _ (S.dx hk);exact ⟨aD,hi,Vv S.b1 hr.1 aD hi (S.dx hk)⟩
theorem StepIn.kE (S:StepIn t r h m):∀ k∈r.q.j,(0<=k/\k<m.m.j.length)/\(0<=iA m.m.j k/\iA m.m.j k<h.i.j.length)/\∃ p:Nat,p<(bW r h m).j.length/\(pY m.m.j (dG r h m).j)[k.toNat]?.getD 0=p:=λk hk=>by
 have hr:=S.hR.q.2.2.1 k hk;have hl:=S.hm.cb;have hi:=S.fh _ (S.e0 hk);exact ⟨aD,hi,Vv S.ej hr.1 aD hi (S.e0 hk)⟩
theorem StepIn.hs (S:StepIn t r h m):∀ i,i<r.right.i.h.length->((cT r h m).h[i]?.getD 0=(((bW r h m).h.length+(bG r.s.h i).length:Nat):Int)↔mem r.s.h i=false):=λi hi=>by
 have:=La S.cg.1 S.hR.q.1.1 (λk hk=>(S.kN k hk).2.2) i;unfold cT;simp only;rw [Sg hi];exact this
theorem StepIn.ht (S:StepIn t r h m):∀ i,i<r.right.i.j.length->((cT r h m).j[i]?.getD 0=(((bW r h m).j.length+(bG r.s.j i).length:Nat):Int)↔mem r.s.j i=false):=λi hi=>by
 have:=La S.cg.2 S.hR.q.1.2 (λk hk=>(S.kE k hk).2.2) i;unfold cT;simp only;rw [Sg hi];exact this
theorem StepIn.bdE (S:StepIn t r h m):Abs.bdE h (bW r h m) (dG r h m) (bW r h m).j.length=⟨cO h.i (bW r h m),(bW r h m).h.map λk=>h.k[k.toNat]?.getD []⟩:=by
 unfold Go.Abs.bdE cO;rw [if_pos S.sub,aG (bF _)];congr 2;refine cH λk e=>?_;obtain ⟨d,c⟩:=p7 S.sub e;have a:∀ v:Int,v∈(bW r h m).h->iA (dG r h m).h v=(oZ (bW r h m).h v:Int):=λv b=>by
  have f:=S.cx v b;unfold iA dG oP;simp only;rw [pT _ aD,Option.getD_some,show ((v.toNat:Nat):Int)=v by omega,A2 S.b1,if_pos ((mem_iff _ _).2 b)]
 unfold trE;rw [a _ d,a _ c];rfl
theorem StepIn.grow (S:StepIn t r h m):j6 t r (cT r h m) (Go.Abs.bdE h (bW r h m) (dG r h m) (bW r h m).j.length)=bS t r h m:=by
 rw [S.bdE];rfl
end
theorem Wk {t:Types}{r:Rule}{h:Host}{m:Mat}(a:FR t r h m=0):checkE t r.left.i h.i m.m r.inj=0/\(eF t r.left h m.m).2=0/\(eF t r.left h m.m).1=m.vars:=by
 unfold FR at a;split at a
 .cases a
 .rename_i h1;split at a
  .exact absurd a (by assumption)
  .rename_i h2;split at a
   .cases a
   .rename_i h3;exact ⟨by simpa using h1,by simpa using h2,by simpa using h3⟩
theorem Vi {t:Types}{r:Rule}(h:ruleF t r=0):condF t r.left r.cond=0:=by
 unfold ruleF at h;split at h
 .exact absurd h (by assumption)
 .split at h
  .cases h
  .split at h
   .exact absurd h (by assumption)
   .split at h
    .exact absurd h (by assumption)
    .split at h
     .exact absurd h (by assumption)
     .split at h
      .cases h
      .exact h
def wK (t:Types)(r:Rule)(h:Host)(m:Mat):Stp26:=if gS t r h m=0 then aP t r h m else mS
theorem XA {P:Program}{f:FuncId}{args:UN}{r:D}(a:r.Q=true)(h:∀ Q:D->AHeap->Prop,(∀ d H',(jK H' d).Q=true->(jK H' d=r\/Nf (jK H' d)=r)->Q d H')->ACalls P f args .as Q):Pure P f args r:=by
 refine Kp a λQ c=>ACalls.cN (h _ λd H' e b=>c _ _ ?_);rw [Rz _ e];exact b
theorem P6 (t:Types)(T:t.ok)(r:Rule)(hr:r.ok)(U:ruleF t r=0)(h:Host)(b8:fM t h=0)(m:Mat):Pua 85 [t.d,r.d,h.d,m.d] (.tup [.agg (wK t r h m).c,dI (gS t r h m)]):=by
 refine XA (by simp [go_sem,D.Q,D.J,Stp26.Q]) λQ G=>?_;have w:=G6 hr U;have N:=nB b8;have e4:=Vi U;refine (Tz.cK ⟨λt=>t==8||t==11||t==13||t==15,λr=>match r with|15=>[(0,2),(2,3),(0,4),(0,6),(1,6),(2,6),(3,6),(4,6)]|16=>[(6,7),(6,8),(6,9),(6,10),(6,11),(6,12)]|17=>[(20,21),(20,22),(20,23),(20,24),(20,25),(20,26),(20,27),(20,28),(20,29),(20,30),(20,31),(20,32),(20,33),(20,34),(20,35),(20,36),(20,37),(20,38),(20,39),(20,40)]|_=>[]⟩ func85 rfl ?_);have Y:=xa2 @Host.d.eq_1 @Host.c.eq_1 @Mat.d.eq_1 @Mat.c.eq_1;refine wv (h:=aB (LB t T r h m) wl ?_);refine dR (λh2=>?_) λh2=>?_
 .have b:gS t r h m=FR t r h m:=by unfold gS kT;rw [Ox,if_pos h2];simp [h2]
  have f:wK t r h m=mS:=by unfold wK;rw [if_neg aD]
  refine wv (h:=?_);refine G _ _ (by simp [go_sem,jK,kQ,qX,fW,D.Q,D.J]) (by first|(left;(simp [go_sem,jK,kQ,qX,fW,b,f,mS,rule0,oQ,jJ,Stp26.c,Rule.c,Mat.c,Host.c,Cond.B,Cond.u,Cond.map,Cond.l,dLI,dI]);done)|(right;(simp [go_sem,jK,kQ,qX,fW,b,f,mS,rule0,oQ,jJ,Stp26.c,Rule.c,Mat.c,Host.c,Cond.B,Cond.u,Cond.map,Cond.l,dLI,dI]);done))
 .have hp0:pE t r h m=oN (kU r.left.i h.i m.m) h.i r.q m.m:=by rw [Ox,if_neg aD]
  obtain ⟨c1,d5,b0⟩:=Wk (aD:FR t r h m=0);have o:=Rd c1;have b7:A9 t r.left.i h.i m.m=kU r.left.i h.i m.m:=by unfold A9;rw [if_pos o]
  have W:=rD (pS o).2;have d9:=bI w.pl.gg;have d8:=bI w.gr;have e0:=bI N.gg;have d6:=W.len;have c9:=W.cb;have d7:=w.kl;have d4:=N.vl;have b1:∀ v∈h.k,v.length<=100000:=λv hv=>by have:=(N.row v hv).1;omega
  have Y:=xa1 Y o b7;refine wv (h:=aB (FK t T r.left.i h.i m.m) wl ?_);refine wv (h:=aB (JL (kU r.left.i h.i m.m) h.i r.q m.m aD aD aD aD aD) wl ?_);refine dR (λh8=>?_) λh8=>?_
  .have hpe:pE t r h m≠0:=aD;have b:gS t r h m=pE t r h m:=by unfold gS kT;rw [if_pos hpe,if_pos hpe]
   have f:wK t r h m=mS:=by unfold wK;rw [if_neg aD]
   refine wv (h:=?_);refine G _ _ (by simp [go_sem,jK,kQ,qX,fW,D.Q,D.J]) (by first|(left;(simp [go_sem,jK,kQ,qX,fW,b,hp0,f,mS,rule0,oQ,jJ,Stp26.c,Rule.c,Mat.c,Host.c,Cond.B,Cond.u,Cond.map,Cond.l,dLI,dI]);done)|(right;(simp [go_sem,jK,kQ,qX,fW,b,hp0,f,mS,rule0,oQ,jJ,Stp26.c,Rule.c,Mat.c,Host.c,Cond.B,Cond.u,Cond.map,Cond.l,dLI,dI]);done))
  .have hpre:pE t r h m=0:=aD;have S:=LC w N hpre;have s:=KD S hpre;have hP:uD (kU r.left.i h.i m.m) h.i r.q m.m=bW r h m:=rfl;have c2:WI t r.left r.cond h m r.inj=0:=by
    unfold WI;rw [if_neg aD,if_neg aD,if_neg aD,if_neg aD,if_neg (by rw [b0];simp)]
   have F:kT t r h m=if (l6 t h r.inj r.cond m).2≠0 then (l6 t h r.inj r.cond m).2 else if (l6 t h r.inj r.cond m).1=false then 16 else 0:=by unfold kT;rw [if_neg aD]
   have Y:=wa Y hP;refine wv (h:=aB ((by have M:=Bb t T r.left r.cond hr.cond w.cond w.pl h N m s r.inj c2;simp only [Cond.x] at M;unfold Types.d Types.c Pattern.d Pattern.c Host.d Host.c Mat.d Mat.c dLI dI at M;exact M)) wl ?_);refine dR (λL=>?_) λL=>?_
   .have b:gS t r h m=(l6 t h r.inj r.cond m).2:=by unfold gS;rw [F,if_pos L];simp [L]
    have f:wK t r h m=mS:=by unfold wK;rw [if_neg aD]
    refine wv (h:=?_);refine G _ _ (by simp [go_sem,jK,kQ,qX,fW,D.Q,D.J]) (by first|(left;(simp [go_sem,jK,kQ,qX,fW,b,f,mS,rule0,oQ,jJ,Stp26.c,Rule.c,Mat.c,Host.c,Cond.B,Cond.u,Cond.map,Cond.l,dLI,dI]);done)|(right;(simp [go_sem,jK,kQ,qX,fW,b,f,mS,rule0,oQ,jJ,Stp26.c,Rule.c,Mat.c,Host.c,Cond.B,Cond.u,Cond.map,Cond.l,dLI,dI]);done))
   .refine mA (λK=>?_) λK=>?_
    .have b:gS t r h m=16:=by
      have:(l6 t h r.inj r.cond m).1=false:=by simpa using K
      have V:kT t r h m=16:=by rw [F,if_neg aD,if_pos this]
      unfold gS;rw [if_pos aD,V]
     have f:wK t r h m=mS:=by unfold wK;rw [if_neg aD]
     refine wv (h:=?_);refine G _ _ (by simp [go_sem,jK,kQ,qX,fW,D.Q,D.J]) (by first|(left;(simp [go_sem,jK,kQ,qX,fW,b,f,mS,rule0,oQ,jJ,Stp26.c,Rule.c,Mat.c,Host.c,Cond.B,Cond.u,Cond.map,Cond.l,dLI,dI]);done)|(right;(simp [go_sem,jK,kQ,qX,fW,b,f,mS,rule0,oQ,jJ,Stp26.c,Rule.c,Mat.c,Host.c,Cond.B,Cond.u,Cond.map,Cond.l,dLI,dI]);done))
    .have V:kT t r h m=0:=by
      have a5:(l6 t h r.inj r.cond m).1=true:=by simpa using K
      rw [F,if_neg aD,if_neg (by rw [a5];simp)]
     have hK:=w.q;have z:=S.kN;have A:=S.kE;obtain ⟨l,g⟩:=c6 (dG r h m);obtain ⟨u,a⟩:=c6 (cT r h m);have a3:oP (bW r h m).h h.i.h.length=l.h:=by rw [g];rfl
     have a2:oP (bW r h m).j h.i.j.length=l.j:=by rw [g];rfl
     have R:l.h.length=h.i.h.length:=by rw [<- a3];exact mG _ _
     have c7:l.j.length=h.i.j.length:=by rw [<- a2];exact mG _ _
     rw [<- g] at z A;have c4:DQ r.q.h r.s.h (pY m.m.h l.h) r.right.i.h.length (bW r h m).h.length=u.h:=by rw [a,g];rfl
     have c3:DQ r.q.j r.s.j (pY m.m.j l.j) r.right.i.j.length (bW r h m).j.length=u.j:=by rw [a,g];rfl
     have c0:=S.len;have a9:=s.vl;have a8:Sm m.vars:=λv hv=>by have:=s.vs v hv;omega
     have d0:=w.pl.vars;have a1:u.h.length=r.right.i.h.length:=by rw [a];simp [cT,DQ]
     have a0:u.j.length=r.right.i.j.length:=by rw [a];simp [cT,DQ]
     have X:=S.hs;have Z:=S.ht;have hB:=S.grow;rw [<- a] at X Z hB;rw [<- g] at hB;have Y:=xa3 Y a3 a2 c4 c3;refine wv (h:=aI (GP m aD aD aD) wl ?_);refine wv (h:=aI (I8 h aD aD aD b1) wl ?_);refine wp (h:=aI (GM h.i.h.length aD (bW r h m).h S.b1 aD) wl ?_);refine wp (h:=aI (GM h.i.j.length aD (bW r h m).j S.ej aD) wl ?_);refine wp (h:=aI (Cv r.right.i.h.length aD r.q.h r.s.h m.m.h l.h (bW r h m).h.length aD aD hK.2.2.2.1 (λx n=>(z x n).1) (λx n=>by have:=(z x n).2.1;omega) (λx n=>by obtain ⟨p,_,hp⟩:=(z x n).2.2;omega)) wl ?_);refine wp (h:=aI (Cv r.right.i.j.length aD r.q.j r.s.j m.m.j l.j (bW r h m).j.length aD aD hK.2.2.2.2 (λx n=>(A x n).1) (λx n=>by have:=(A x n).2.1;omega) (λx n=>by obtain ⟨p,_,hp⟩:=(A x n).2.2;omega)) wl ?_);refine wp (h:=?_);refine yO (.step (.step (.step (.refl _) 9 0 31 3 1 _ _ (by simp [go_sem];rfl) rfl rfl rfl) 9 0 32 145 3 _ _ (by simp [go_sem];rfl) rfl rfl rfl) 9 0 33 26 1 _ _ (by simp [go_sem];rfl) rfl rfl rfl) ?_;simp [go_sem];unfold f7;refine P5 t T r w m h N (bW r h m) l u S.cx S.fh c0 R ⟨a1,a0⟩ X Z 9 73 74 75 _ (by simp [go_sem,stpC,dLI]) ⟨by simp [go_sem],by simp [go_sem],by simp [go_sem,lZ],rfl,λi q v h1 _=>by simp at h1,by simp,λq M=>by simp at M;rcases M with rfl|rfl|rfl<;>simp [go_sem]⟩ (by simp [go_sem]) aE (λj hj b=>?_) _ (λqs H1 a4 C b3 b2 b9 b5=>?_)
     .simp [go_sem,lO,n8,y9,uK] at b hj;omega
     rw [hB] at a4 C;have c8:76<=H1.next:=by simp [go_sem] at b5;omega
     have k0:=b9 0 (by simp [go_sem]) aE;simp [go_sem] at k0;have y:∀ j,j<73->j∉73 :: 74 :: 75 :: qs:=λj hj hm=>by
      simp only [aV] at hm;rcases hm with h|h|h|h
      .omega
      .omega
      .omega
      .have:=b2 j h;simp [go_sem] at this;omega
     refine wp (h:=?_);unfold f7;refine SF t T r w m h (bS t r h m) l u (a ▸ S.put) a9 a8 H1 9 73 74 75 qs C a4 b3 aD _ (λH2 I B b4=>?_) (λH2 I H B b4=>?_)
     .have m0:=(B 0 aD (y 0 aD)).trans k0;have b:gS t r h m=r8 t (bS t r h m).i u m.vars r.right.o:=by unfold gS;rw [if_neg aD,<- a,if_pos I]
      have f:wK t r h m=mS:=by unfold wK;rw [if_neg aD]
      simp [go_sem,seval,m0];refine bA (λhc=>?_) (λhc=>absurd (bZ hc) I);simp [go_sem,seval,m0];refine G _ _ (by simp [go_sem,jK,kQ,qX,fW,D.Q,D.J]) (by first|(left;(simp [go_sem,jK,kQ,qX,fW,b,f,mS,rule0,oQ,jJ,Stp26.c,Rule.c,Mat.c,Host.c,Cond.B,Cond.u,Cond.map,Cond.l,dLI,dI]);done)|(right;(simp [go_sem,jK,kQ,qX,fW,b,f,mS,rule0,oQ,jJ,Stp26.c,Rule.c,Mat.c,Host.c,Cond.B,Cond.u,Cond.map,Cond.l,dLI,dI]);done))
     have m0:=(B 0 aD (y 0 aD)).trans k0;have m9:=(B 9 aD (y 9 aD)).trans C;simp only [stpC] at m9;have a7:H2.get 73=some ⟨3,1,(bS t r h m).i.h.map cI,false⟩:=H.ga;have a6:H2.get 74=some ⟨145,3,(bS t r h m).i.j.map Edge.c,false⟩:=H.gb;have Y:=xa3 Y m0 m9 a7 a6;refine mA (λJ=>?_) λJ=>?_
     .have b:gS t r h m=3:=by
       unfold gS;rw [if_neg aD,<- a,if_neg aD,if_pos (by first|exact J|omega)]
      have f:wK t r h m=mS:=by unfold wK;rw [if_neg aD]
      refine wv (h:=?_);refine G _ _ (by simp [go_sem,jK,kQ,qX,fW,D.Q,D.J]) (by first|(left;(simp [go_sem,jK,kQ,qX,fW,b,f,mS,rule0,oQ,jJ,Stp26.c,Rule.c,Mat.c,Host.c,Cond.B,Cond.u,Cond.map,Cond.l,dLI,dI]);done)|(right;(simp [go_sem,jK,kQ,qX,fW,b,f,mS,rule0,oQ,jJ,Stp26.c,Rule.c,Mat.c,Host.c,Cond.B,Cond.u,Cond.map,Cond.l,dLI,dI]);done))
     .have b:gS t r h m=0:=by
       unfold gS;rw [if_neg aD,<- a,if_neg aD,if_neg (by first|exact J|omega)]
      have f:wK t r h m=aP t r h m:=by unfold wK;rw [if_pos b]
      have hW:bM t r h m=⟨(bS t r h m).i,uQ u m.vars r.right.o (bS t r h m).k⟩:=by rw [a];rfl
      have P:=(qC u m.vars r.right.o (bS t r h m).k).1;have c5:∀ k:Blk,Q (.tup [.agg (stpC r m h (.own 73 (bS t r h m).i.h.length) (.own 74 (bS t r h m).i.j.length) (.own 75 (bS t r h m).k.length) l u),dI 0]) (H2.put 0 k):=λk=>by
       obtain ⟨E,hE⟩:=c6 (H2.put 0 k);have h5:HH E 0 73 74 75 qs (bM t r h m):=by
        rw [hW];exact H.same (by rw [hE];simp [go_sem]) (λj hj=>by
         have b6:j≠0:=λe=>y 0 aD (e ▸ hj);rw [hE];simp [go_sem,b6])
       have hd:=h5.cN;have e1:(bM t r h m).i.h.length=(bS t r h m).i.h.length:=by rw [hW]
       have e2:(bM t r h m).i.j.length=(bS t r h m).i.j.length:=by rw [hW]
       have e3:(bM t r h m).k.length=(bS t r h m).k.length:=by rw [hW];exact P
       rw [e1,e2,e3] at hd;simp only [kQ,iX,jY,Host.d,Host.c,D.agg.injEq,List.cons.injEq,and_true] at hd;obtain ⟨d1,d2,d3⟩:=hd;have O:jK E (.tup [.agg (stpC r m h (.own 73 (bS t r h m).i.h.length) (.own 74 (bS t r h m).i.j.length) (.own 75 (bS t r h m).k.length) l u),dI 0])=.tup [.agg (wK t r h m).c,dI (gS t r h m)]:=by
        rw [b,f];simp only [jK,kQ,stpC,iX,jY,d1,d2,d3];simp [kQ,qX,fW,aP,Stp26.c,Rule.c,Mat.c,Host.c,dLI,dI,g,a]
       rw [<- hE];exact G _ _ (by rw [O];simp [go_sem,D.Q,D.J,Stp26.Q]) (.inl O)
      refine wv (h:=?_);exact c5 _
theorem w8 {t:Types}{r:Rule}{h:Host}(a:f9 t r h=0):ruleF t r=0/\fM t h=0:=by
 unfold f9 at a;split at a
 .exact absurd a (by assumption)
 .rename_i h1;exact ⟨by simpa using h1,a⟩
theorem Cw (t:Types)(g:t.ok)(r:Rule)(i:r.ok)(a:ruleF t r=0)(h:Host)(b:fM t h=0)(m:Mat){v:Stp26}{e:Int}(f:v=wK t r h m)(j:e=gS t r h m):Pua 85 [t.d,r.d,h.d,m.d] (.tup [.agg v.c,dI e]):=by
 subst f j;exact P6 t g r i a h b m
theorem GQ (t:Types)(j:t.ok)(r:Rule)(k:r.ok)(h:Host)(m:Mat):Pua 40 [t.d,r.d,h.d,m.d] (.tup [.agg (gI t r h m).c,dI (lL t r h m)]):=by
 obtain ⟨v,i⟩:=c6 (wK t r h m);obtain ⟨e,f⟩:=c6 (gS t r h m);refine Tz.pK ⟨λt=>t==8,λ_=>[]⟩ func40 rfl (λQ l=>?_);have Y:=xa3 @Host.d.eq_1 @Host.c.eq_1 @Mat.d.eq_1 @Mat.c.eq_1 @Stp26.c.eq_1;refine wv (h:=aB (GO t j r k h) wl ?_);refine dR (λn=>?_) λn=>?_
 .have a:lL t r h m=f9 t r h:=by unfold lL;rw [if_pos n]
  have g:gI t r h m=mS:=by unfold gI;rw [if_neg aD]
  exact wv (h:=l _ _ (by simp [go_sem,a,g,mS,rule0,oQ,jJ,Stp26.c,Rule.c,Mat.c,Host.c,Cond.B,Cond.u,Cond.map,Cond.l,dLI,dI]))
 .have hz:=w8 (aD:f9 t r h=0);have a:lL t r h m=e:=by rw [f];unfold lL;rw [if_neg aD]
  have g:gI t r h m=v:=by rw [i];unfold gI wK;rw [a,f]
  refine wv (h:=aB ((by have b:=Cw t j r k hz.1 h hz.2 m i f;simp only [Stp26.c,Rule.c,Mat.c,Host.c,dN,dP] at b;unfold Mat.d Mat.c Host.d Host.c dLI at b;exact b)) wl ?_);exact wv (h:=l _ _ (by simp [go_sem,a,g,Stp26.c,Rule.c,Mat.c,Host.c]))
theorem FI (t:Types)(q:t.ok)(r:Rule)(z:r.ok)(h:Host):Pua 38 [t.d,r.d,h.d] (.tup [.list ((o7 t r h).1.map Mat.c),dI (o7 t r h).2]):=by
 refine Tz.pK ⟨λt=>t==11||t==13||t==14,λ_=>[]⟩ func38 rfl (λQ w=>?_);have Y:=wa @Host.d.eq_1 @Host.c.eq_1;refine wv (h:=aB (GO t q r z h) wl ?_);refine dR (λD=>?_) λD=>?_
 .have hS:o7 t r h=([],f9 t r h):=by unfold o7;rw [if_pos D]
  exact wv (h:=w _ _ (by simp [go_sem,hS]))
 .have hz:=w8 (aD:f9 t r h=0);refine wv (h:=aB (DD t q r.left h r.inj) wl ?_);refine dR (λC=>?_) λC=>?_
  .have hS:o7 t r h=([],(fE t r.left h r.inj).2):=by unfold o7;rw [if_neg aD,if_pos C]
   exact wv (h:=w _ _ (by simp [go_sem,hS]))
  .have hS:o7 t r h=((fE t r.left h r.inj).1.filter λm=>decide (gS t r h m=0),0):=by unfold o7;rw [if_neg aD,if_neg aD]
   have x:=Ai t r.left h r.inj;obtain ⟨L,B⟩:=c6 ((fE t r.left h r.inj).1);rw [<- B] at hS x;have Y:=wa Y (Eq.symm B);refine wp (h:=bC (λi e H=>∃ g:List Mat,(e 3=.adr t.c/\e 4=.adr r.c/\e 5=.adr h.c/\e 36=.list (L.map Mat.c)/\e 37=dI L.length/\e 11=.own 0 g.length/\e 38=dI i)/\(H.get 0=some ⟨55,3,g.map Mat.c,false⟩)/\(0<H.next)/\(i<=L.length)/\(g=(L.take i).filter λm=>decide (gS t r h m=0))/\(g.length<=i)) (λi=>L.length - i) 0 ⟨([]),wg,wn,wn,wi,(by rfl),(by simp)⟩ λJ n i e H u=>?_);obtain ⟨g,G,p,k,I,f,F⟩:=u;have Y:=xa2 Y G p (cW k);refine dR (λo=>?_) λo=>?_
   .obtain ⟨v,E⟩:=c6 (wK t r h L[i]);obtain ⟨e,A⟩:=c6 (gS t r h L[i]);obtain ⟨b,a⟩:∃ y,y=g++[L[i]].filter λm=>decide (gS t r h m=0):=⟨_,rfl⟩;have l:gS t r h L[i]=e:=A.symm;have Y:=xa3 Y o (aA o) @Mat.c.eq_1 @Stp26.c.eq_1;refine wp (h:=aB ((by have s:=Cw t q r z hz.1 h hz.2 L[i] E A;simp only [Stp26.c,Rule.c,Mat.c,Host.c,dN,dP] at s;unfold Mat.d Mat.c Host.d Host.c dLI at s;exact s)) wl ?_);refine mA (λj=>?_) λj=>?_
    .have hm3:b=g++[L[i]]:=by rw [a,IU (by rw [l];simpa using j)];rfl
     have Y:=wa Y hm3;exact wp (h:=wx n (i+1) ⟨b,wg,wn,wn,wj,(by rw [List.take_succ_eq_append_getElem o,fJ,<- f,a]),(by rw [hm3];first|(simp;omega)|omega)⟩)
    .have hm3:b=g:=by rw [a,IV (by rw [l];simpa using j)];simp
     have Y:=wa Y hm3;exact wp (h:=wx n (i+1) ⟨b,wg,wn,wn,wj,(by rw [List.take_succ_eq_append_getElem o,fJ,<- f,a]),(by rw [hm3];first|(simp;omega)|omega)⟩)
   .rw [aG aD] at f;exact wv (h:=w _ _ (by simp [go_sem,Y,hS,<- f]))
deriving instance DecidableEq for Edge
deriving instance DecidableEq for Graph
deriving instance DecidableEq for Part
deriving instance DecidableEq for Host
deriving instance DecidableEq for Mat
theorem K7 {x y:Edge}(h:x.type=y.type/\x.w=y.w/\x.M=y.M):x=y:=by
 obtain ⟨a,b,c⟩:=x;obtain ⟨d,e,f⟩:=y;obtain ⟨rfl,rfl,rfl⟩:=h;rfl
theorem CR (a b:Part):decide (a=b)=(decide (a.h=b.h)&&decide (a.j=b.j)):=by
 rw [aT];cases a;cases b;simp
theorem Dg (a b:Graph):decide (a=b)=(decide (a.h=b.h)&&decide (a.j=b.j)):=by
 rw [aT];cases a;cases b;simp
theorem UJ (a b:Mat):decide (a=b)=(decide (a.m=b.m)&&decide (a.vars=b.vars)):=by
 rw [aT];cases a;cases b;simp
theorem RZ (a b:Host):decide (a=b)=(decide (a.i=b.i)&&decide (a.k=b.k)):=by
 rw [aT];cases a;cases b;simp
theorem mC (a b:V2):Pua 130 [dLI a,dLI b] (.bool (decide (a=b))):=by
 refine Tz.p0 func130 rfl λQ g Y=>?_;refine eJ (λm=>?_) λm=>?_
 .refine wv (h:=?_);have c:a≠b:=by intro h;subst h;omega
  exact g _ _ (by simp [go_sem,c])
 .refine wv (h:=bC (λi e H=>(e 0=dLI a/\e 1=dLI b/\e 5=dI i)/\(i<=a.length)/\(a.take i=b.take i)) (λi=>a.length - i) 0 ⟨wg,wi,(by rfl)⟩ λp j i e H d=>?_);obtain ⟨n,o,f⟩:=d;have Y:=wa Y n;refine wv (h:=?_);repeat first|intro _|refine ⟨iI,?_⟩
  refine wq (λl=>?_) λl=>?_
  .have hib:i<b.length:=aD;have Y:=xa1 Y l hib;refine eJ (λk=>?_) λk=>?_
   .refine wv (h:=?_);have c:a≠b:=by intro h;subst h;exact k rfl
    exact g _ _ (by simp [go_sem,c])
   .exact wo (h:=wx j (i+1) ⟨wg,wj,(by rw [List.take_succ_eq_append_getElem l,List.take_succ_eq_append_getElem hib,f,k])⟩)
  .rw [aG aD,aG aD] at f;exact wv (h:=g _ _ (by simp [go_sem,f]))
theorem EX (a b:Graph):Pua 61 [a.d,b.d] (.bool (decide (a=b))):=by
 refine Tz.p0 func61 rfl λQ m Y=>?_;refine wo (h:=aB (mC a.h b.h) wl ?_);refine eJ (λj=>?_) λj=>?_
 .refine wv (h:=?_);have f:a≠b:=by intro h;subst h;simp at j
  exact m _ _ (by simp [go_sem,f])
 .have hab:a.h=b.h/\a.j.length=b.j.length:=by (try simp at j);obtain ⟨p,r⟩:=j;exact ⟨p,aD⟩
  refine wv (h:=bC (λi e H=>(e 2=.adr a.c/\e 3=.adr b.c/\e 5=dI i)/\(i<=a.j.length)/\(a.j.take i=b.j.take i)) (λi=>a.j.length - i) 0 ⟨wg,wi,(by rfl)⟩ λt n i e H k=>?_);obtain ⟨q,s,l⟩:=k;have Y:=wa Y q;refine wv (h:=?_);repeat first|intro _|refine ⟨iI,?_⟩
  refine wq (λg=>?_) λg=>?_
  .have hib:i<b.j.length:=aD;have Y:=xa2 Y g (aA g) (aA hib);refine eJ (λo=>?_) λo=>?_
   .refine wv (h:=?_);have f:a≠b:=by intro h;subst h;simp at o
    exact m _ _ (by simp [go_sem,f])
   .exact wo (h:=wx n (i+1) ⟨wg,wj,(by rw [List.take_succ_eq_append_getElem g,List.take_succ_eq_append_getElem hib,l,K7 o])⟩)
  .have hE:a.j=b.j:=by rw [aG aD,aG aD] at l;exact l
   exact wv (h:=m _ _ (by simp [go_sem,Dg,hab.1,hE]))
theorem vA (a b:Part):Pua 25 [a.d,b.d] (.bool (decide (a=b))):=by
 refine Tz.p0 func25 rfl λQ e Y=>?_;refine wo (h:=aB (tX a.h b.h) wl ?_);refine wo (h:=aH (λc=>tX a.j b.j) (λc=>wl) ?_);have Y:=wa Y @CR;exact wo (h:=e _ _ wy)
theorem Oj (a b:Part):Pua 180 [a.d,b.d] (.bool (decide (a=b))):=by
 refine Tz.p0 func180 rfl λQ e Y=>?_;refine wo (h:=aB (mC a.h b.h) wl ?_);refine wo (h:=aH (λc=>mC a.j b.j) (λc=>wl) ?_);have Y:=wa Y @CR;exact wo (h:=e _ _ wy)
theorem D7 (a b:Mat):Pua 101 [a.d,b.d] (.bool (decide (a=b))):=by
 refine Tz.p0 func101 rfl λQ f _=>?_;have Y:=wa @Mat.d.eq_1 @Mat.c.eq_1;refine wo (h:=aB (mC a.m.h b.m.h) wl ?_);refine wo (h:=aH (λe=>mC a.m.j b.m.j) (λe=>wl) ?_);refine wo (h:=aH (λe=>mC a.vars b.vars) (λe=>wl) ?_);have Y:=xa1 Y @UJ @CR;exact wo (h:=f _ _ wy)
def DN (a b:V2):Prop:=∃ k:Int,Pure prog 62 [dLI a,dLI b] (dI k)/\(k=0↔a=b)
theorem Hm (a:V2):Pua 62 [dLI a,dLI a] (dI 0):=by
 refine Tz.p0 func62 rfl λQ f Y=>?_;refine wv (h:=bC (λi e H=>(e 0=dLI a/\e 1=dLI a/\e 5=dI i)/\(i<=a.length)) (λi=>a.length - i) 0 ⟨wg,wi⟩ λk d i e H c=>?_);obtain ⟨g,j⟩:=c;have Y:=wa Y g;refine wv (h:=?_);repeat first|intro _|refine ⟨iI,?_⟩
 refine wq (λb=>?_) λb=>?_
 .have Y:=xa1 Y b (aA b);exact wo (h:=wx d (i+1) ⟨wg,wj⟩)
 .have Y:=wa Y b;exact wo (h:=f _ _ wy)
theorem Ce (a:V2):DN a a:=⟨0,Hm a,by simp⟩
theorem Ac (a b:Host)(t:∀ i (l:i<a.k.length) (x:i<b.k.length),DN a.k[i] b.k[i]):Pua 23 [a.d,b.d] (.bool (decide (a=b))):=by
 refine Tz.p0 func23 rfl λQ p _=>?_;have Y:=wa @Host.d.eq_1 @Host.c.eq_1;refine wo (h:=aB (EX a.i b.i) wl ?_);refine eJ (λl=>?_) λl=>?_
 .refine wv (h:=?_);have f:a≠b:=by intro h;subst h;simp at l
  exact p _ _ (by simp [go_sem,f])
 .have hab:a.i=b.i/\a.k.length=b.k.length:=by (try simp at l);obtain ⟨s,v⟩:=l;exact ⟨s,aD⟩
  refine wv (h:=bC (λi e H=>(e 2=.adr a.c/\e 3=.adr b.c/\e 5=dI i)/\(i<=a.k.length)/\(a.k.take i=b.k.take i)) (λi=>a.k.length - i) 0 ⟨wg,wi,(by rfl)⟩ λy q i e H n=>?_);obtain ⟨u,w,o⟩:=n;have Y:=wa Y u;refine wv (h:=?_);repeat first|intro _|refine ⟨iI,?_⟩
  refine wq (λj=>?_) λj=>?_
  .have hib:i<b.k.length:=aD;obtain ⟨k,m,g⟩:=t i j hib;have Y:=xa3 Y j (aA j) (aA hib) @cL.eq_1;refine wo (h:=aI (m) wl ?_);refine eJ (λr=>?_) λr=>?_
   .refine wv (h:=?_);have f:a≠b:=by intro h;subst h;exact r (g.2 rfl)
    exact p _ _ (by simp [go_sem,f])
   .exact wo (h:=wx q (i+1) ⟨wg,wj,(by rw [List.take_succ_eq_append_getElem j,List.take_succ_eq_append_getElem hib,o,g.1 r])⟩)
  .have hV:a.k=b.k:=by rw [aG aD,aG aD] at o;exact o
   exact wv (h:=p _ _ (by simp [go_sem,RZ,hab.1,hV]))
theorem sZ (t:Types)(b:t.ok)(r:Rule)(f:r.ok)(h:Host)(m:Mat){v:Stp26}{e:Int}(a:v=gI t r h m)(g:e=lL t r h m):Pua 40 [t.d,r.d,h.d,m.d] (.tup [.agg v.c,dI e]):=by
 subst a g;exact GQ t b r f h m
theorem VC {P:Program}{f:FuncId}{args args':UN}{r:D}(i:args.map TZ=args')(h:Pure P f args' r):Pure P f args r:=by
 subst i;refine ⟨h.1,λM w a k b=>h.2 M w a k ⟨by simpa using b.len,λj u d g c=>?_⟩⟩;rw [aM,bU] at c;obtain ⟨y,e,rfl⟩:=c;exact Md (b.Z j u y g e)
theorem pQ {g:Graph}{p:Part}(h:subF g p=0):(cO g p).h.length=p.h.length/\(cO g p).j.length=p.j.length:=by
 unfold cO;rw [if_pos h];simp
theorem Xq {g:Graph}{p:Part}(h:subF g p=0):p.h.length<=g.h.length/\p.j.length<=g.j.length:=by
 obtain ⟨_,c,b,a⟩:=nE h;exact ⟨MO c b,MO (tT h) a⟩
theorem Ig {g:Graph}{p:Part}(h:subF g p=0):graphF (cO g p)=0:=by
 obtain ⟨l,i,j,m⟩:=nE h;obtain ⟨q,v⟩:=pQ h;obtain ⟨u,t⟩:=Xq h;have r:=bI l;have c:=dX l;refine Eh aD aD (λa f=>?_) (λx d=>?_)
 .unfold cO at f;rw [if_pos h,aX] at f;obtain ⟨n,b,rfl⟩:=f;exact c.1 _ (BY (j n b).1 (j n b).2)
 .rw [q];unfold cO at d;rw [if_pos h,aX] at d;obtain ⟨k,e,rfl⟩:=d;rw [BZ];have s:=c.2 _ (Mz (m k e).1 (m k e).2);have o:=p7 h e;have y:=(yB i o.1).1;have w:=(yB i o.2).1;exact ⟨s.1,by show (0:Int)<=(oZ _ _:Nat)/\((oZ _ _:Nat):Int)<_;omega,by show (0:Int)<=(oZ _ _:Nat)/\((oZ _ _:Nat):Int)<_;omega⟩
theorem AO {a b:Graph}{m:Part}(l:graphF a=0)(j:graphF b=0)(p:m.h.length=a.h.length)(l2:m.j.length=a.j.length)
  (f:∀ i:Int,0<=i->i<a.h.length->(0<=iA m.h i/\iA m.h i<b.h.length)/\gN b (iA m.h i)=gN a i)
  (g:∀ k:Int,0<=k->k<a.j.length->(0<=iA m.j k/\iA m.j k<b.j.length)/\(eA a k).type=(eA b (iA m.j k)).type/\iA m.h (eA a k).w=(eA b (iA m.j k)).w/\iA m.h (eA a k).M=(eA b (iA m.j k)).M):eK a b m=0:=by
 unfold eK;rw [if_neg (by rw [l];simp),if_neg (by rw [j];simp),if_neg aD];have n:bV (lI a b m) 0 a.h.length=0:=iM _ _ λi _ r=>by
  have:=f i aD aD;unfold iA gN at this;unfold lI;simp only [Int.toNat_natCast] at this;rw [if_neg aD,if_neg (by rw [this.2];simp)]
 rw [if_neg (by rw [n];simp)];refine iM _ _ λk _ q=>?_;have:=g k aD aD;unfold iA eA at this;simp only [Int.toNat_natCast] at this;obtain ⟨o,e,d,c⟩:=this;unfold mapEE;rw [if_neg aD,if_neg (by rw [e];simp),if_neg];rintro (h|h)
 .exact h d
 .exact h c
theorem DU {t:Types}{g:Graph}(c:∀ a∈g.h,a<t.h.length)(d:∀ x∈g.j,x.type<t.j.length):fV t g=true:=by
 unfold fV;rw [aL,cX,cX,fZ,fZ];exact ⟨λa e=>by have:=c a e;simpa using this,λx b=>by have:=d x b;simpa using this⟩
section
variable {g:Graph} {p:Part} {more:Graph} {kept:Part} {im:V2}
end
theorem W8 {g:Graph}{i:Nat}(h:i<g.h.length):gN g i=g.h[i]:=by unfold gN;simp [h]
theorem Sb {g:Graph}{i:Nat}(h:i<g.j.length):eA g i=g.j[i]:=by unfold eA;simp [h]
section
variable {t:Types} {a b:Rule} {o:Ovl}
theorem qD {g:Graph}(a:(dA t).2=0)(c:graphF g=0)(b:fV t g=true):c8 t ⟨g,[],0,[]⟩=0:=by
 unfold c8;rw [if_neg (by rw [a];simp),if_neg (by show ¬ graphF g≠0;rw [c];simp),if_neg (by show ¬ fV t g=false;rw [b];simp),if_neg (by show ¬ inF 0 0 12=false;decide),if_neg aE,if_neg (by simp [g5]),if_neg (by show ¬ lQ 0 []≠0;decide),if_neg (by show ¬ mem (kP (0:Int).toNat []) false=true;decide)]
end
theorem V8 {n:Nat}{p:V2}(h:VD n p){i j:Nat}(c:i<p.length)(b:j<p.length)(a:i≠j):p[i]≠p[j]:=by
 intro d;rcases Nat.lt_or_gt_of_ne a with hlt|hlt
 .exact h.2.2 i j hlt b (by rw [aA c,aA b,d])
 .exact h.2.2 j i hlt c (by rw [aA c,aA b,d])
theorem QB {n:Nat}{p:V2}(h:VD n p):p.Nodup:=by
 rw [eR,dD];exact λa b e c d=>V8 h e c aD
section
variable {g:Graph} {p q:V2}
end
section
variable {t:Types} {g:Graph} {d:Dr24}
structure GrOk (t:Types) (g G:Graph):Prop where
 ok:graphF G=0
 ty:fV t G=true
 no:∀ i:Int,0<=i->i<g.h.length->gN G i=gN g i
 ed:∀ k:Int,0<=k->k<g.j.length->eA G k=eA g k
 fi:∀ k:Int,g.j.length<=k->k<G.j.length->pP t (eA G k).type (gN G (eA G k).w) (gN G (eA G k).M)=true
 ln:g.h.length<=G.h.length
 le:g.j.length<=G.j.length
end
end Go.Abs
end
