/- Layers 12 and 13: complement.Of, Jointly. · All, Extend and  -/
import Derived.Test.YtbgbahlipnaflaaGreatZuAG
import Derived.Test.YtbgbahlipnaflaaGreatZuAA
import Derived.Test.YtbgbahlipnaflaaGreatZuAN
set_option linter.unusedVariables false
set_option linter.unusedSimpArgs false
section
set_option maxRecDepth 100000
set_option maxHeartbeats 4000000
open Go Go.Proofs Tryz
namespace Go.Abs
def gluC (l g:Graph)(keep m:Part):UN:=[dLI l.h,.list (l.j.map Edge.c),dLI g.h,.list (g.j.map Edge.c),dLI keep.h,dLI keep.j,dLI m.h,dLI m.j]
theorem Er (l g:Graph)(keep m:Part)(c:keep.h.length<=1000000):Pua 245 [.agg (gluC l g keep m)] (dI (compG l g keep m)):=by
 refine Tz.p0 func245 rfl λQ b _=>?_;have Y:=@gluC.eq_1;refine wv (h:=aB (qH l g m) wl ?_);refine dR (λa=>?_) λa=>?_
 .have Y:=xa1 Y a @compG.eq_1;exact wv (h:=b _ _ wy)
 .refine wv (h:=aB (zR l keep c) wl ?_);have Y:=xa1 Y a @compG.eq_1;exact wv (h:=b _ _ wy)
theorem Cc (l g:Graph)(keep m:Part)(x:m.h.length<=1000000):Pua 329 [.agg (gluC l g keep m)] (dLI (g6 m.h keep.h)):=by
 refine Tz.pK ⟨λt=>t==3,λ_=>[]⟩ func329 rfl (λQ u=>?_);have Y:=@gluC.eq_1;refine wo (h:=bC (λi e H=>∃ a:V2,(e 1=.adr (gluC l g keep m)/\e 8=dLI m.h/\e 9=dI m.h.length/\e 3=.own 0 a.length/\e 10=dI i)/\(H.get 0=some ⟨3,1,a.map cI,false⟩)/\(0<H.next)/\(i<=m.h.length)/\(a.length<=i)/\(a=((List.range i).filter λ(b:Nat)=>!mem keep.h b).map (λi=>m.h[i]?.getD 0))) (λi=>m.h.length - i) 0 ⟨([]),wg,wn,wn,wi,aE,(by rfl)⟩ λB f i e H o=>?_);obtain ⟨a,v,k,d,z,y,n⟩:=o;have Y:=xa2 Y v k (cW d);refine dR (λj=>?_) λj=>?_
 .have Y:=xa1 Y j (aA j);refine wo (h:=aB (f6 keep.h i) wl ?_);refine eJ (λp=>?_) λp=>?_
  .have Y:=wa Y p;exact wo (h:=wx f (i+1) ⟨(a++(if (!mem keep.h i)=true then [m.h[i]] else [])),wg,wn,wn,wj,(by rw [aQ];split<;>simp<;>omega),(by rw [rJ _ _ j,<- n])⟩)
  .have Y:=wa Y p;exact wo (h:=wx f (i+1) ⟨(a++(if (!mem keep.h i)=true then [m.h[i]] else [])),wg,wn,wn,wj,(by rw [aQ];split<;>simp<;>omega),(by rw [rJ _ _ j,<- n])⟩)
 .refine wv (h:=?_);have s:g6 m.h keep.h=a:=by rw [n,(aD:i=m.h.length)];rfl
  exact u _ _ (by simp [go_sem,Y,s])
theorem Bc (l g:Graph)(keep m:Part)(x:m.h.length<=1000000)(o:g.j.length<=1000000):Pua 247 [.agg (gluC l g keep m)] (dLI (vN g m.j (g6 m.h keep.h))):=by
 obtain ⟨d,s⟩:=dF (g6 m.h keep.h);refine Tz.pK ⟨λt=>t==6||t==4,λ_=>[]⟩ func247 rfl (λQ z=>?_);have Y:=wa s @gluC.eq_1;refine wv (h:=aB ((by have:=Cc l g keep m x;simp only [gluC] at this;exact this)) wl ?_);refine wo (h:=bC (λk e H=>∃ a:V2,(e 1=.adr (gluC l g keep m)/\e 3=dLI d/\e 11=.list (g.j.map Edge.c)/\e 12=dI g.j.length/\e 4=.own 0 a.length/\e 13=dI k)/\(H.get 0=some ⟨3,1,a.map cI,false⟩)/\(0<H.next)/\(k<=g.j.length)/\(a.length<=k)/\(a=((List.range k).filter (xH g m.j d)).map (λ(b:Nat)=>(b:Int)))) (λk=>g.j.length - k) 0 ⟨([]),wg,wn,wn,wi,aE,(by rfl)⟩ λI j k e H r=>?_);obtain ⟨a,C,n,i,F,E,q⟩:=r;have Y:=xa2 Y C n (cW i);refine dR (λp=>?_) λp=>?_
 .have hdb:=Pm (me:=m.j) (gone:=d) p;have B:=f6 d g.j[k].w;have A:=f6 d g.j[k].M;have Y:=xa3 Y p (aA p) hdb @Edge.c.eq_1;refine wo (h:=aB (f6 m.j k) wl ?_);refine wo (h:=aH (λo=>B) (λo=>wl) ?_);refine wo (h:=aH (λo=>A) (λo=>wl) ?_);refine eJ (λu=>?_) λu=>?_
  .have Y:=wa Y u;exact wo (h:=wx j (k+1) ⟨(a++(if xH g m.j d k=true then [(k:Int)] else [])),wg,wn,wn,wj,(by rw [aQ];split<;>simp<;>omega),(by rw [dW,<- q])⟩)
  .have Y:=wa Y u;exact wo (h:=wx j (k+1) ⟨(a++(if xH g m.j d k=true then [(k:Int)] else [])),wg,wn,wn,wj,(by rw [aQ];split<;>simp<;>omega),(by rw [dW,<- q])⟩)
 .refine wv (h:=?_);have y:vN g m.j d=a:=by rw [q,(aD:k=g.j.length)];rfl
  exact z _ _ (by simp [go_sem,Y,y])
theorem zJ (l g:Graph)(keep m:Part)(c:m.h.length<=1000)(b:m.j.length<=1000):Pua 246 [.agg (gluC l g keep m)] (.tup [.list ((nZ m.h keep.h).map cPr),.list ((nZ m.j keep.j).map cPr)]):=by
 refine Tz.p0 func246 rfl λQ a _=>?_;have Y:=@gluC.eq_1;refine wv (h:=aI (xJ m.h keep.h c) wl ?_);refine wv (h:=aI (xJ m.j keep.j b) wl ?_);exact wv (h:=a _ _ wy)
theorem tG {a b:Graph}{m:Part}(h:eK a b m=0):(∀ x∈m.h,0<=x/\x<b.h.length)/\∀ x∈m.j,0<=x/\x<b.j.length:=by
 obtain ⟨_,_,j,g⟩:=kK h;have d:eK a b m=(if bV (lI a b m) 0 a.h.length≠0 then bV (lI a b m) 0 a.h.length else bV (mapEE a b m) 0 a.j.length):=by
  obtain ⟨f,e,_,_⟩:=kK h;unfold eK;rw [if_neg (by simp [f]),if_neg (by simp [e]),if_neg aD]
 rw [d] at h;split at h
 .rename_i h5;exact absurd h h5
 .rename_i h5;constructor
  .intro x hx;obtain ⟨i,c,rfl⟩:=aN hx;have:=eZ _ _ (aD:bV (lI a b m) 0 a.h.length=0) i aD aD;unfold lI at this;grind
  .intro x hx;obtain ⟨i,c,rfl⟩:=aN hx;have:=eZ _ _ h i aD aD;unfold mapEE at this;grind
theorem JL (l g:Graph)(keep m:Part)(s:keep.h.length<=1000000)(i:m.h.length<=1000)(f:m.j.length<=1000)(o:g.h.length<=1000000)(k:g.j.length<=1000000):Pua 155 [l.d,g.d,keep.d,m.d] (.tup [(uD l g keep m).d,dI (oN l g keep m)]):=by
 have v:=Dm (keep:=keep.h) i;have u:=Dm (keep:=keep.j) f;refine Tz.pK ⟨λt=>t==8||t==10,λ_=>[]⟩ func155 rfl (λQ n=>?_);have Y:=trivial;refine wv (h:=aB ((by have:=Er l g keep m s;simp only [gluC] at this;exact this)) wl ?_);refine dR (λe=>?_) λe=>?_
 .have b:oN l g keep m=compG l g keep m:=if_pos e;have c:uD l g keep m=⟨[],[]⟩:=if_neg (by rw [b];exact e);exact wv (h:=n _ _ (by simp [go_sem,b,c]))
 .have b:oN l g keep m=if 0<(nZ m.h keep.h).length+(nZ m.j keep.j).length then 15 else if 0<(vN g m.j (g6 m.h keep.h)).length then 14 else 0:=if_neg (by rw [e];simp)
  have j:(∀ x∈m.h,0<=x/\x<g.h.length)/\∀ x∈m.j,0<=x/\x<g.j.length:=tG (a:=l) (by unfold compG at e;by_cases p:eK l g m=0;exact p;rw [if_pos p] at e;exact e);refine wv (h:=aB ((by have:=zJ l g keep m i f;simp only [gluC] at this;exact this)) wl ?_);refine eJ (λr=>?_) λr=>?_
  .rw [if_pos aD] at b;have c:uD l g keep m=⟨[],[]⟩:=if_neg (by rw [b];simp);exact wv (h:=n _ _ (by simp [go_sem,b,c]))
  .rw [if_neg (by first|omega|simp [r])] at b;refine wo (h:=aB ((by have:=Bc l g keep m aD k;simp only [gluC] at this;exact this)) wl ?_);refine eJ (λq=>?_) λq=>?_
   .rw [if_pos aD] at b;have c:uD l g keep m=⟨[],[]⟩:=if_neg (by rw [b];simp);exact wv (h:=n _ _ (by simp [go_sem,b,c]))
   .rw [if_neg (by first|omega|simp [q])] at b;have c:uD l g keep m=⟨bG (g6 m.h keep.h) g.h.length,bG (g6 m.j keep.j) g.j.length⟩:=if_pos b;refine wo (h:=aI (y5 g.h.length o m.h keep.h aD j.1) wl ?_);refine wo (h:=aI (y5 g.j.length k m.j keep.j aD j.2) wl ?_);exact wo (h:=n _ _ (by simp [go_sem,b,c]))
@[go_sem] theorem Y3 (l:List Part):D.R (l.map Part.c)=true:=wV l
theorem ZD (t:Types)(p g:Graph)(hG:G17 t p g)(pn pe:V2)(h1:pn.length=p.h.length)(h2:pe.length=p.j.length)(inj:Bool) :
  Pua 256 [t.d,p.d,g.d,.agg [dLI pn,dLI pe],.bool inj,dI 5000] (.list (((yR ⟨t,p,g,pn,pe,inj⟩).take 5001).map Part.c)) :=
 SV ⟨t,p,g,pn,pe,inj⟩ hG h1 h2 5000 aD
theorem Uo (t:Types)(p g:Graph)(hG:G17 t p g)(pn pe:V2)(h1:pn.length=p.h.length)(h2:pe.length=p.j.length)(inj:Bool){L:List Part}(hL:L=(yR ⟨t,p,g,pn,pe,inj⟩).take 5001) :
 Pua 256 [t.d,p.d,g.d,.agg [dLI pn,dLI pe],.bool inj,dI 5000] (.list (L.map Part.c)):=hL ▸ ZD t p g hG pn pe h1 h2 inj
theorem Xx (t:Types)(p g:Graph)(b:G17 t p g)(inj:Bool){L:List Part}(a:L=(yR ⟨t,p,g,List.replicate p.h.length (-1),List.replicate p.j.length (-1),inj⟩).take 5001) :
  Pua 256 [t.d,p.d,g.d,.agg [.list (List.replicate p.h.length [D.int .i64 (-1)]),.list (List.replicate p.j.length [D.int .i64 (-1)])],.bool inj,dI 5000] (.list (L.map Part.c)):=by
 have:=Uo t p g b _ _ aE aE inj a;simpa only [dLI,List.map_replicate,cI] using this
theorem SW (t:Types)(i:t.ok)(p g:Graph)(inj:Bool):Pua 167 [t.d,p.d,g.d,.bool inj] (.tup [.list ((mJ t p g inj).1.map Part.c),dI (mJ t p g inj).2]):=by
 refine Tz.p0 func167 rfl λQ e Y=>?_;refine wv (h:=aB (u5 t i p g) wl ?_);refine dR (λb=>?_) λb=>?_
 .have a:mJ t p g inj=([],eL t p g):=by unfold mJ;rw [if_pos (bZ b)]
  exact wv (h:=e _ _ (by simp [go_sem,a]))
 .have hG:=nX (bZ b);have j:=bI hG.gp;obtain ⟨L,f⟩:=c6 ((yR ⟨t,p,g,List.replicate p.h.length (-1),List.replicate p.j.length (-1),inj⟩).take 5001);have a:mJ t p g inj=if 5000<L.length then ([],3) else (L,0):=by unfold mJ;rw [if_neg (bZ b)];unfold F6;rw [<- f]
  refine wv (h:=aI (Qt p aD aD) wl ?_);refine wv (h:=aI (Xx t p g hG inj f) wl ?_);refine eJ (λk=>?_) λk=>?_
  .rw [if_pos aD] at a;exact wv (h:=e _ _ (by simp [go_sem,a]))
  .rw [if_neg aD] at a;exact wv (h:=e _ _ (by simp [go_sem,a]))
def CS (l:V2)(wB n:Int):Int:=if (l.length:Int)≠wB then 20 else oL l n
theorem CN (l:V2)(wB n:Int):Pua 411 [dLI l,dI wB,dI n] (dI (CS l wB n)):=by
 refine Tz.p0 func411 rfl λQ d Y=>?_;refine eJ (λk=>?_) λk=>?_
 .have hP:CS l wB n=20:=by unfold CS;rw [if_pos aD]
  exact wv (h:=d _ _ (by simp [go_sem,hP]))
 .have hP:CS l wB n=oL l n:=by unfold CS;rw [if_neg aD]
  refine wv (h:=bC (λi e H=>(e 0=dLI l/\e 2=dI n/\e 7=dI i)/\(i<=l.length)/\(bV (CZ n l) i (l.length - i)=oL l n)) (λi=>l.length - i) 0 ⟨wg,wi,(by rfl)⟩ λp f i e H c=>?_);obtain ⟨m,o,g⟩:=c;have Y:=wa Y m;refine wv (h:=?_);repeat first|intro _|refine ⟨iI,?_⟩
  refine wq (λa=>?_) λa=>?_
  .have hst:=fN (CZ n l) a;rw [g] at hst;have b:CZ n l i=if l[i] < -1\/n<=l[i] then 6 else 0:=by simp only [CZ,aA a,Option.getD_some]
   have Y:=xa1 Y a (aA a);refine eJ (λj=>?_) λj=>?_
   .rw [if_pos aD] at b;rw [b,if_pos aD] at hst;exact wv (h:=d _ _ (by simp [go_sem,hP,hst]))
   .rw [if_neg aD] at b;rw [b,if_neg aD] at hst;exact wo (h:=wx f (i+1) ⟨wg,wj,(by exact hst.symm)⟩)
  .have hZ:oL l n=0:=by rw [<- g,(aD:l.length - i=0)];rfl
   exact wv (h:=d _ _ (by simp [go_sem,hP,hZ]))
theorem L5 (t:Types)(n:t.ok)(p g:Graph)(q:Part)(inj:Bool):Pua 386 [t.d,p.d,g.d,q.d,.bool inj] (.tup [.list ((oS t p g q inj).1.map Part.c),dI (oS t p g q inj).2]):=by
 refine Tz.p0 func386 rfl λQ j Y=>?_;refine wv (h:=aB (u5 t n p g) wl ?_);refine dR (λf=>?_) λf=>?_
 .have a:oS t p g q inj=([],eL t p g):=by unfold oS;rw [if_pos (bZ f)]
  exact wv (h:=j _ _ (by simp [go_sem,a]))
 .have hG:=nX (bZ f);refine eJ (λo=>?_) λo=>?_
  .have a:oS t p g q inj=([],20):=by unfold oS;rw [if_neg (bZ f),if_pos aD]
   exact wv (h:=j _ _ (by simp [go_sem,a]))
  .have hq:q.h.length=p.h.length/\q.j.length=p.j.length:=aD;have e:CS q.h p.h.length g.h.length=oL q.h g.h.length:=by unfold CS;rw [if_neg aD]
   have b:CS q.j p.j.length g.j.length=oL q.j g.j.length:=by unfold CS;rw [if_neg aD]
   refine wo (h:=aB (CN q.h p.h.length g.h.length) wl ?_);refine eJ (λk=>?_) λk=>?_
   .have a:oS t p g q inj=([],oL q.h g.h.length):=by unfold oS;rw [if_neg (bZ f),if_neg aD,if_pos (by rw [<- e];exact k)]
    exact wv (h:=j _ _ (by simp [go_sem,a,e]))
   .have h7':oL q.h g.h.length=0:=by rw [<- e];exact k
    refine wo (h:=aB (CN q.j p.j.length g.j.length) wl ?_);refine eJ (λi=>?_) λi=>?_
    .have a:oS t p g q inj=([],oL q.j g.j.length):=by unfold oS;rw [if_neg (bZ f),if_neg aD,if_neg aD,if_pos (by rw [<- b];exact i)]
     exact wv (h:=j _ _ (by simp [go_sem,a,b]))
    .have h10':oL q.j g.j.length=0:=by rw [<- b];exact i
     obtain ⟨L,m⟩:=c6 ((yR ⟨t,p,g,q.h,q.j,inj⟩).take 5001);have a:oS t p g q inj=if 5000<L.length then ([],3) else (L,0):=by unfold oS;rw [if_neg (bZ f),if_neg aD,if_neg aD,if_neg aD];unfold F6;rw [<- m]
     refine wv (h:=aB (Uo t p g hG q.h q.j hq.1 hq.2 inj m) wl ?_);refine eJ (λl=>?_) λl=>?_
     .rw [if_pos aD] at a;exact wv (h:=j _ _ (by simp [go_sem,a]))
     .rw [if_neg aD] at a;exact wv (h:=j _ _ (by simp [go_sem,a]))
/-! ### the instance of a pattern -/
def HT (g:Graph)(ms ns:V2)(i:Nat):V2:=(List.range i).foldl (λacc k=>acc.set k (gN g (ms[k]?.getD 0))) ns
theorem Ao (g:Graph)(ms ns:V2):∀ i,(HT g ms ns i).length=ns.length
 | 0=>rfl
 | i+1=>by unfold HT;rw [eV,jP];exact Ao g ms ns i
theorem KJ (g:Graph)(a ns:V2)(i:Nat):HT g a ns (i+1)=(HT g a ns i).set i (gN g (a[i]?.getD 0)):=by unfold HT;rw [eV]
theorem O3 (g:Graph)(ms ns:V2)(k:Nat)(hk:k<ns.length):∀ i,(HT g ms ns i)[k]?=if k<i then some (gN g (ms[k]?.getD 0)) else ns[k]?
 | 0=>by simp [HT]
 | i+1=>by
  rw [KJ,eI,Ao,O3 g ms ns k hk i];by_cases h:i=k
  .subst h;simp [hk]
  .rw [if_neg h];by_cases h2:k<i
   .rw [if_pos h2,if_pos aD]
   .rw [if_neg h2,if_neg aD]
theorem UY {g:Graph}{a ns:V2}(h:a.length=ns.length):HT g a ns ns.length=a.map (gN g):=by
 apply iF;intro k;by_cases b:k<ns.length
 .rw [O3 g a ns k b,if_pos b,aM,aA aD];rfl
 .rw [bY (by rw [Ao];omega),bY (by simp;omega)]
def A9 (t:Types)(p g:Graph)(m:Part):Graph:=if checkE t p g m false=0 then kU p g m else ⟨[],[]⟩
theorem AQ {t:Types}{p g:Graph}{m:Part}{inj:Bool}(h:matchE t p g m inj=0) :
  (m.h.length=p.h.length/\m.j.length=p.j.length)/\(∀ x∈m.h,0<=x/\x<g.h.length)/\(∀ x∈m.j,0<=x/\x<g.j.length):=by
 unfold matchE at h;split at h
 .cases h
 .rename_i h1;split at h
  .exact absurd h (by assumption)
  .rename_i h2;split at h
   .exact absurd h (by assumption)
   .rename_i h3;refine ⟨aD,λx a=>?_,λx a=>?_⟩
    .obtain ⟨k,b,rfl⟩:=aN a;have:=eZ _ _ (bZ h2) k (eP _) aD;unfold mNE at this;rw [aA b,Option.getD_some] at this;split at this
     .cases this
     .omega
    .obtain ⟨k,b,rfl⟩:=aN a;have:=eZ _ _ (bZ h3) k (eP _) aD;unfold mapEE at this;rw [aA b,Option.getD_some] at this;split at this
     .cases this
     .omega
theorem pS {t:Types}{p g:Graph}{m:Part}{inj:Bool}(h:checkE t p g m inj=0):G17 t p g/\matchE t p g m inj=0:=by
 unfold checkE at h;split at h
 .exact absurd h (by assumption)
 .rename_i h1;exact ⟨nX (bZ h1),h⟩
theorem Hj (t:Types)(R:t.ok)(p g:Graph)(m:Part):Pua 171 [t.d,p.d,g.d,m.d] (.tup [(A9 t p g m).d,dI (checkE t p g m false)]):=by
 refine Tz.pK ⟨λt=>t==8||t==11,λ_=>[]⟩ func171 rfl (λQ M=>?_);have Y:=trivial;refine wv (h:=aB (Aa t R p g m false) wl ?_);refine dR (λu=>?_) λu=>?_
 .have I:A9 t p g m=⟨[],[]⟩:=by unfold A9;rw [if_neg (bZ u)]
  exact wv (h:=M _ _ (by simp [go_sem,I]))
 .obtain ⟨N,hM⟩:=pS (bZ u);obtain ⟨⟨r,X⟩,z,U⟩:=AQ hM;have W:=bI N.gp;have V:=bI N.gg;have I:A9 t p g m=kU p g m:=by unfold A9;rw [if_pos (bZ u)]
  refine wv (h:=?_);unfold f7;refine Bt p aD aD _ _ (λa b j ha hb a2 a1 Z E D F S=>?_);have a4:(0:Nat)<j.next:=aD;have a3:a≠0:=by simp [go_sem] at ha;omega
  have a0:b≠0:=by simp [go_sem] at hb;omega
  have s:=F 0 (by simp [go_sem]);simp [go_sem] at s;have P:=nxs j.next;have J:=xa1 (cW (aD:a<j.next)) (cW (aD:b<j.next)) (cW (aD:0<j.next));have L:=xa1 (dZ (aD:0≠b)) (dZ (aD:0≠a)) (dZ (aD:b≠a));have Y:=xa5 Y J L E D s P;refine wv (h:=bC (λi e H=>∃ c:Nat,(e 4=.adr t.c/\e 5=.adr p.c/\e 6=.adr g.c/\e 7=.adr m.c/\e 8=.ptr 0 1 0 0/\e 11=.ptr c 1 0 0/\e 12=dI i)/\(H.get 0=some ⟨29,2,[[.nil,.nil]],false⟩)/\(0<H.next)/\(H.get c=some ⟨29,2,[[.own a p.h.length,.own b p.j.length]],false⟩)/\(c<H.next)/\(H.get a=some ⟨3,1,(HT g m.h p.h i).map cI,false⟩)/\(a<H.next)/\(H.get b=some ⟨145,3,p.j.map Edge.c,false⟩)/\(b<H.next)/\(i<=p.h.length)/\(a<c/\b<c)/\((HT g m.h p.h i).length=p.h.length)) (λi=>p.h.length - i) 0 ⟨j.next,wg,wn,wn,wn,wn,(by simp [go_sem,Y,HT]),wn,wn,wn,wi,aD,(by exact Ao _ _ _ _)⟩ λI0 G i e H A=>?_);obtain ⟨c,E0,y,o,v,k,x,n,w,l,hi,hc,q⟩:=A;have K:=xa4 (dZ (aD:0≠c)) (dZ (aD:0≠b)) (dZ (aD:0≠a)) (dZ (aD:c≠b)) (dZ (aD:c≠a)) (dZ (aD:b≠a));have Y:=xb0 Y E0 y (cW o) v (cW k) x (cW n) w (cW l) q K;refine mA (λO=>?_) λO=>?_
  .have him:i<m.h.length:=aD;have T:=z _ (aC him);have f:m.h[i].toNat<g.h.length:=aD;have C:gN g (m.h[i]?.getD 0)=g.h[m.h[i].toNat]:=by rw [aA him,Option.getD_some];simp [gN,aA f]
   have B:gN g m.h[i]=g.h[m.h[i].toNat]:=by simp [gN,aA f]
   have Y:=xa2 Y O (aA him) (aA f);exact wp (h:=wx G (i+1) ⟨c,wg,wn,wn,wn,wn,(by simp [go_sem,Y,KJ,dB,C,B,cI]),wn,wn,wn,wj,aD,(by exact Ao _ _ _ _)⟩)
  .have hIe:i=p.h.length:=aD;have hE:=UY (g:=g) r;rw [hIe] at q;exact wv (h:=M _ _ (by simp [go_sem,Y,I,kU,Graph.d,Graph.c,hIe,hE,dLI,r,u]))
theorem OX {α:Type}{f:α->Int}{m:Int}(h0:(0:Int)≠m)(h:∀ x,f x≠m):∀ l,g5 f l≠m
 | []=>h0
 | x :: l=>by
  simp only [g5];split
  .exact h x
  .exact OX h0 h l
theorem SD (n:Int)(l:List Test):lQ n l≠9:=by
 unfold lQ;split
 .decide
 .split
  .decide
  .refine OX (by decide) (λx=>?_) l;unfold uX;split
   .decide
   .split<;>decide
structure PatOk (t:Types) (q:Pattern):Prop where
 vf:(dA t).2=0
 gg:graphF q.i=0
 ty:fV t q.i=true
 vars:0<=q.vars/\q.vars<=12
 b5:q.o.length<=10/\q.E.length<=10
 gy:∀ s∈q.o,gX t q s=0
 d2:∀ x∈q.E,uX q.vars x=0
theorem HA {t:Types}{q:Pattern}(h:c8 t q=9\/c8 t q=0):PatOk t q:=by
 have i:=lR h;have k:=JZ t;have l:graphF q.i≠9:=by
  unfold graphF;repeat' split
  all_goals decide
 have j:=SD q.vars q.E;unfold c8 at h;by_cases g:(dA t).2=0
 .rw [if_neg aD] at h;by_cases f:graphF q.i=0
  .rw [if_neg aD] at h;by_cases b:fV t q.i=false
   .rw [if_pos b] at h;omega
   .rw [if_neg b] at h;by_cases e:inF q.vars 0 12=false
    .rw [if_pos e] at h;omega
    .rw [if_neg e] at h;by_cases d:10<q.o.length\/10<q.E.length
     .rw [if_pos d] at h;omega
     .rw [if_neg d] at h;by_cases c:g5 (gX t q) q.o=0
      .rw [if_neg aD] at h;by_cases a:lQ q.vars q.E=0
       .refine ⟨g,f,by simpa using b,i,aD,rF c,rF ?_⟩;unfold lQ at a;split at a
        .cases a
        .split at a
         .cases a
         .exact a
       .rw [if_pos a] at h;omega
      .rw [if_pos c] at h;omega
  .rw [if_pos f] at h;omega
 .rw [if_pos g] at h;omega
theorem Nx {n:Int}{x:Term}(h:termB n x=true)(hn:0<=n):qV x n.toNat:=by
 simp only [termB,aL,decide_eq_true_eq] at h;exact ⟨⟨aD,aD⟩,aD,aD⟩
theorem PatOk.E {t:Types}{q:Pattern}(hp:PatOk t q):∀ x∈q.E,IQ x q.vars.toNat:=λx hx=>by
 have:=hp.d2 x hx;unfold uX at this;split at this
 .cases this
 .rename_i h1;split at this
  .rename_i h2;rw [aL] at h2;exact ⟨aD,Nx h2.1 hp.vars.1,Nx h2.2 hp.vars.1⟩
  .cases this
theorem PatOk.o {t:Types}{q:Pattern}(hp:PatOk t q):∀ s∈q.o,(0<=s.node/\s.node<q.i.h.length)/\(0<=s.H/\s.H<(bQ t (q.i.h[s.node.toNat]?.getD 0)).length)/\qV s.y q.vars.toNat:=λs hs=>by
 have:=hp.gy s hs;have hv:=hp.vars;unfold gX at this;split at this
 .rename_i h1;simp only [aL,mI,decide_eq_true_eq,inF,Pattern.B] at h1;exact ⟨h1.1.1.1,⟨h1.1.1.2.1,of_decide_eq_true h1.1.1.2.2⟩,⟨aD,aD⟩,aD,aD⟩
 .cases this
structure MOk (t:Types) (p g:Graph) (m:Part):Prop where
 len:m.h.length=p.h.length
 cb:m.j.length=p.j.length
 bO:∀ (i:Nat) (hi:i<m.h.length) (hp:i<p.h.length),(0<=m.h[i]/\m.h[i]<g.h.length)/\uT t p.h[i] (g.h[m.h[i].toNat]?.getD 0)=true
 dm:∀ (i:Nat) (hi:i<m.j.length),0<=m.j[i]/\m.j[i]<g.j.length
theorem rD {t:Types}{p g:Graph}{m:Part}{inj:Bool}(h:matchE t p g m inj=0):MOk t p g m:=by
 obtain ⟨⟨f,e⟩,d,c⟩:=AQ h;refine ⟨f,e,λi a b=>⟨d _ (aC a),?_⟩,λi a=>c _ (aC a)⟩;unfold matchE at h;rw [if_neg aD] at h;split at h
 .exact absurd h (by assumption)
 .rename_i h5;have:=eZ _ _ (bZ h5) i (eP _) aD;unfold mNE at this;rw [aA a,aA b,Option.getD_some,Option.getD_some] at this;split at this
  .cases this
  .split at this
   .assumption
   .cases this
theorem Pe {S:Srch}{ns:V2}:∀ (d:Nat) (l es:V2),es∈F5 S ns d l->es.length=l.length+d/\(∀ x∈l,0<=x/\x<S.g.j.length->True)/\((∀ x∈l,0<=x/\x<S.g.j.length)->∀ x∈es,0<=x/\x<S.g.j.length)
 | 0,l,es,h=>by
  simp only [F5,bP] at h;subst h;exact ⟨rfl,λ_ _ _=>trivial,λh=>h⟩
 | d+1,l,es,h=>by
  simp only [F5,bT,fY,aW] at h;obtain ⟨k,⟨hk,_⟩,hr⟩:=h;obtain ⟨h1,_,h3⟩:=Pe d _ es hr;refine ⟨by simp at h1;omega,λ_ _ _=>trivial,λhl=>h3 λx hx=>?_⟩;rw [aZ,bP] at hx;rcases hx with hx|rfl
  .exact hl x hx
  .omega
theorem Pd {S:Srch}:∀ (d:Nat) (l:V2) (m:Part),m∈Dj S d l->m.h.length=l.length+d/\∀ i,l.length<=i->i<l.length+d->∃ k:Nat,m.h[i]?=some (k:Int)/\k<S.g.h.length/\uT S.t (S.p.h[i]?.getD 0) (S.g.h[k]?.getD 0)=true
 | 0,l,m,h=>by
  simp only [Dj,aX] at h;obtain ⟨es,_,rfl⟩:=h;exact ⟨rfl,λi h1 h2=>by omega⟩
 | d+1,l,m,h=>by
  have h':=h;simp only [Dj,bT,fY,aW] at h;obtain ⟨k,⟨hk,ho⟩,hr⟩:=h;obtain ⟨h1,h2⟩:=Pd d _ m hr;simp at h1 h2;refine ⟨aD,λi h3 h4=>?_⟩;by_cases hi:i=l.length
  .subst hi;obtain ⟨⟨r,hr2⟩,_⟩:=Av d _ m hr;refine ⟨k,by rw [hr2];simp,hk,?_⟩;simp only [Kt,aL] at ho;exact ho.2.2
  .exact h2 i aD aD
theorem PL {S:Srch}{m:Part}(h:m∈yR S):MOk S.t S.p S.g m:=by
 unfold yR at h;obtain ⟨f,e⟩:=Pd _ _ m h;obtain ⟨_,q⟩:=Av _ _ m h;obtain ⟨d,_,o⟩:=Pe _ _ _ q;simp at f e d;refine ⟨f,d,λi a l=>?_,λi a=>o (by intro x j;cases j) _ (aC a)⟩;obtain ⟨k,c,r,b⟩:=e i aD;rw [aA a] at c;have n:m.h[i]=(k:Int):=Option.some.inj c;rw [aA l,Option.getD_some] at b;rw [n];exact ⟨aD,by simpa using b⟩
theorem pO {t:Types}{h:Host}(ho:HostOk t h):∀ a∈h.i.h,0<=a/\a<t.h.length:=λa ha=>by
 obtain ⟨i,hi,rfl⟩:=aN ha;have:=ho.vl;exact ⟨((dX ho.gg).1 _ ha).1,(qK (ho.nd i hi aD)).1⟩
theorem V3 {t:Types}{q:Pattern}{h:Host}{m:Part}(hp:PatOk t q)(ho:HostOk t h)(hm:MOk t q.i h.i m):SOk q h m where
 vars:=hp.vars
 node s hs:=by have:=hp.o s hs;have:=hm.len;omega
 bO k hk:=by
  obtain ⟨i,hi,rfl⟩:=aN hk;have:=(hm.bO i hi (by have:=hm.len;omega)).1;have:=ho.vl;omega
 H s hs:=by
  obtain ⟨h1,h2,_⟩:=hp.o s hs;have hl:=hm.len;have hi:s.node.toNat<m.h.length:=aD;have hq:s.node.toNat<q.i.h.length:=aD;obtain ⟨h3,h4⟩:=hm.bO _ hi hq;have hvl:=ho.vl;have hk:m.h[s.node.toNat].toNat<h.i.h.length:=aD;have hkv:m.h[s.node.toNat].toNat<h.k.length:=aD;rw [aA hi,Option.getD_some,aA hkv,Option.getD_some];rw [aA hq,Option.getD_some] at h2;rw [aA hk,Option.getD_some] at h4;have ha:=(j7 hp.gg hp.ty).1 _ (aC hq);have hb:=pO ho _ (aC hk);rw [tM hp.vf ha.1 ha.2] at h2;have hrow:=(qK (ho.nd _ hk hkv)).2.2.1;rw [tM hp.vf hb.1 hb.2] at hrow;unfold uT at h4;obtain ⟨r,hr⟩:=Lm (mX hp.vf) (h.i.h[m.h[s.node.toNat].toNat]).toNat aD (q.i.h[s.node.toNat]).toNat (by rw [Int.toNat_of_nonneg ha.1];exact h4);rw [hr,aQ] at hrow;omega
 gc l hl v hv:=(ho.row l hl).2 v hv
 y s hs:=(hp.o s hs).2.2
 d2:=hp.E
/-! ### values -/
def LD (p:Pattern)(vs:V2):V2 × List Bool:=(vs++List.replicate (p.vars.toNat - vs.length) 0,List.replicate vs.length true++List.replicate (p.vars.toNat - vs.length) false)
theorem Gg (p:Pattern):LD p []=(List.replicate p.vars.toNat 0,List.replicate p.vars.toNat false):=by simp [LD]
theorem eW {p:Pattern}{h:Host}{m:Part}{vs:V2}(a:slotsV h m (LD p vs) p.o=none):eX p h m vs=([],11):=by
 unfold eX;unfold LD at a;rw [a]
theorem p5 {p:Pattern}{h:Host}{m:Part}{vs:V2}{q:V2 × List Bool}(a:slotsV h m (LD p vs) p.o=some q):eX p h m vs=if p.E.all (λx=>A6 x q.1)=true then (q.1,0) else ([],16):=by
 unfold eX;unfold LD at a;rw [a]
structure StOk (n:Nat) (st:V2 × List Bool):Prop where
 l1:st.1.length=n
 l2:st.2.length=n
 sm:∀ v∈st.1,-2000000<=v/\v<=2000000
theorem StOk.bo {n:Nat}{st:V2 × List Bool}(h:StOk n st):Sm st.1:=λv hv=>by have:=h.sm v hv;omega
theorem Nz {p:Pattern}{vs:V2}(b:0<=p.vars)(c:vs.length<=p.vars.toNat)(a:∀ v∈vs,-2000000<=v/\v<=2000000):StOk p.vars.toNat (LD p vs):=by
 refine ⟨by simp [LD];omega,by simp [LD];omega,λv h=>?_⟩;simp only [LD,aZ,List.mem_replicate] at h;rcases h with h|h
 .exact a v h
 .omega
theorem zU {n:Nat}{h:Host}{m:Part}{b:V2 × List Bool}{s:Slot}(a:StOk n b)(f : -1000000<=haveV h m s/\haveV h m s<=1000000)(d:qV s.y n):StOk n (lX h m b s):=by
 unfold lX;split
 .refine ⟨by simp [a.l1],by simp [a.l2],λv c=>?_⟩;rcases oB c with e|rfl
  .exact a.sm v e
  .have:=d.2;omega
 .exact a
theorem SOk.cA {p:Pattern}{h:Host}{m:Part}(d:SOk p h m){s:Slot}(e:s∈p.o) : -1000000<=haveV h m s/\haveV h m s<=1000000:=by
 have g:=d.node s e;have a:s.node.toNat<m.h.length:=aD;have i:=d.bO _ (aC a);have b:(m.h[s.node.toNat]).toNat<h.k.length:=aD;have f:=d.H s e;unfold haveV;rw [aA a,Option.getD_some,aA b,Option.getD_some] at f ⊢;have c:s.H.toNat<(h.k[(m.h[s.node.toNat]).toNat]).length:=aD;rw [aA c];exact d.gc _ (aC b) _ (aC c)
theorem J8 {p:Pattern}{h:Host}{m:Part}(hO:SOk p h m):∀ (l:List Slot) (st q:V2 × List Bool),(∀ s∈l,s∈p.o)->StOk p.vars.toNat st->slotsV h m st l=some q->StOk p.vars.toNat q
 | [],st,q,_,hst,hq=>by simp only [slotsV,bH] at hq;exact hq ▸ hst
 | s :: l,st,q,hl,hst,hq=>by
  simp only [slotsV] at hq;split at hq
  .have hs:=hl s (f8 ..);exact J8 hO l _ q (λx hx=>hl x (dS _ hx)) (zU hst (hO.cA hs) (hO.y s hs)) hq
  .cases hq
theorem BE {p:Pattern}{h:Host}{m:Part}(d:SOk p h m){vs:V2}(f:vs.length<=p.vars.toNat)(e:∀ v∈vs,-2000000<=v/\v<=2000000)(a:(eX p h m vs).2=0) :
  (eX p h m vs).1.length=p.vars.toNat/\∀ v∈(eX p h m vs).1,-2000000<=v/\v<=2000000:=by
 cases b:slotsV h m (LD p vs) p.o with
 | none=>rw [eW b] at a;cases a
 | some q =>
  have c:=J8 d _ _ _ (λ_ h=>h) (Nz d.vars.1 f e) b;rw [p5 b] at a ⊢;split at a
  .rename_i h1;rw [if_pos h1];exact ⟨c.l1,c.sm⟩
  .cases a
theorem nK (q:Pattern)(h:Host)(a:V2)(l:List Part)(x:Part):tP q h a (l++[x])=tP q h a l++if (eX q h x a).2=0 then [⟨x,(eX q h x a).1⟩] else []:=by
 unfold tP;rw [List.filterMap_append];congr 1;simp only [List.filterMap_cons,List.filterMap_nil];split<;>simp_all
theorem lC (o:Option Bool):(Option.map cB o).getD [D.bool false]=cB (o.getD false):=by cases o<;>rfl
theorem CM (p:Pattern)(h:Host)(m:Part)(M:SOk p h m):Pua 168 [p.d,h.d,m.d] (.tup [dLI (eX p h m []).1,dI (eX p h m []).2]):=by
 have hv:=M.vars;have h0:=Nz (vs:=[]) hv.1 aE aE;rw [Gg] at h0;refine Tz.pK ⟨λt=>t==11,λ_=>[]⟩ func168 rfl (λQ O=>?_);have Y:=xa5 @Pattern.d.eq_1 @Pattern.c.eq_1 @Host.d.eq_1 @Host.c.eq_1 @Part.d.eq_1 @Part.c.eq_1 @Term.c.eq_1;refine wp (h:=bC (λi e H=>∃ l:V2 × List Bool,(e 3=.adr p.c/\e 4=.adr h.c/\e 5=.adr m.c/\e 8=.own 0 p.vars.toNat/\e 9=.own 1 p.vars.toNat/\e 10=dI i)/\(H.get 0=some ⟨3,1,l.1.map cI,false⟩)/\(0<H.next)/\(H.get 1=some ⟨4,1,l.2.map cB,false⟩)/\(1<H.next)/\(i<=p.o.length)/\(StOk p.vars.toNat l)/\(slotsV h m (LD p []) (p.o.take i)=some l)) (λi=>p.o.length - i) 0 ⟨((List.replicate p.vars.toNat 0,List.replicate p.vars.toNat false)),wg,(by simp [go_sem,cI]),wn,(by simp [go_sem,cB]),wn,wi,(by exact h0),(by rw [Gg];rfl)⟩ λI0 B i e H a2=>?_);obtain ⟨l,E0,X,S,V,P,hi,q,G⟩:=a2;have Y:=xa4 Y E0 X (cW S) V (cW P);refine wv (h:=?_);repeat first|intro _|refine ⟨fS,?_⟩
 refine wq (λC=>?_) λC=>?_
 .obtain ⟨x,T⟩:=c6 (p.o[i]);have z:x∈p.o:=T ▸ aC C;have hn:=M.node x z;have r:x.node.toNat<m.h.length:=aD;have Z:=M.bO _ (aC r);have v:(m.h[x.node.toNat]).toNat<h.k.length:=aD;have ha:=M.H x z;rw [aA r,Option.getD_some,aA v,Option.getD_some] at ha;have A:x.H.toNat<(h.k[(m.h[x.node.toNat]).toNat]).length:=aD;have hV:haveV h m x=h.k[(m.h[x.node.toNat]).toNat][x.H.toNat]:=by unfold haveV;rw [aA r,Option.getD_some,aA v,Option.getD_some,aA A];rfl
  have hb:=M.cA z;have K:=M.y x z;have u:=q.l1;have I:=q.l2;have a5:=K.1;have a6:=K.2;have n:=uY C G;rw [<- T] at n;obtain ⟨o,f⟩:∃ y,y=lX h m l x:=⟨_,rfl⟩;have j:StOk p.vars.toNat o:=f ▸ zU q hb K;rw [<- f] at n;have g:¬ 0<=x.y.O->o=l:=λhn=>by rw [f];unfold lX lT;rw [if_neg (by simp [hn])]
  have E:0<=x.y.O->x.y.O.toNat<l.2.length:=λhn=>by omega
  obtain ⟨kb,U⟩:=c6 (l.2[x.y.O.toNat]?.getD false);have J:0<=x.y.O\/(¬ 0<=x.y.O/\l.2[x.y.O.toNat]?=none)\/(¬ 0<=x.y.O/\l.2[x.y.O.toNat]?=some kb):=by
   by_cases F:0<=x.y.O
   .exact .inl F
   .right
    cases ho:l.2[x.y.O.toNat]? with
    | none=>exact .inl ⟨F,rfl⟩
    | some b=>rw [ho] at U;exact .inr ⟨F,by rw [U];rfl⟩
  rcases J with hc|hc|hc
  .have Y:=xa3 Y C (aA C) (Eq.symm T) (xb0 (aA r) (aA v) (aA A) (Eq.symm hV) @Slot.c.eq_1 @cL.eq_1 u I @lC @cB.eq_1 hc ((aA (E hc))));refine mA (λh9=>?_) λh9=>?_
   .have hF:lT l x=true:=by simp only [lT,aL,decide_eq_true_eq,cX];exact ⟨hc,by simpa [aA (E hc)] using h9⟩
    unfold lX at f;rw [if_pos hF] at f;have a0:x.y.O.toNat<l.1.length:=aD;have e1:o.1.map cI=(l.1.map cI).set x.y.O.toNat (cI (haveV h m x - x.y.add)):=by rw [f,dB]
    have e2:o.2.map cB=(l.2.map cB).set x.y.O.toNat (cB true):=by rw [f,dB]
    have a4:D.R ((l.1.map cI).set x.y.O.toNat [D.int .i64 (haveV h m x - x.y.add)])=true:=by have:=rX o.1;rw [e1] at this;exact this
    have Y:=xa5 Y e1 e2 @dLI.eq_1 @cI.eq_1 (aA a0) a4;refine wp (h:=eH (r7 x.y o.1 (by rw [j.l1];exact K) j.bo) wr wl rfl ?_);refine mA (λa=>?_) λa=>?_
    .have hR:=eW (n.2 (by first|simpa using a|simpa [g hc.1] using a|simpa [f] using a));exact wv (h:=O _ _ (by simp [go_sem,hR]))
    .have hstep:=n.1 (by first|simpa using a|simpa [g hc.1] using a|simpa [f] using a);exact wp (h:=wx B (i+1) ⟨o,wg,(by simp [go_sem,Y]),wn,(by simp [go_sem,Y]),wn,wj,(by exact j),(by exact hstep)⟩)
   .have hF:¬ lT l x=true:=by simp only [lT,aL,decide_eq_true_eq,cX];rintro ⟨_,Z⟩;simp [aA (E hc)] at Z;simp [Z] at h9
    unfold lX at f;rw [if_neg hF] at f;have Y:=wa Y f;refine wv (h:=eH (r7 x.y o.1 (by rw [j.l1];exact K) j.bo) wr wl rfl ?_);refine dR (λa=>?_) λa=>?_
    .have hR:=eW (n.2 (by first|simpa using a|simpa [g hc.1] using a|simpa [f] using a));exact wv (h:=O _ _ (by simp [go_sem,hR]))
    .have hstep:=n.1 (by first|simpa using a|simpa [g hc.1] using a|simpa [f] using a);exact wp (h:=wx B (i+1) ⟨o,wg,(by simp [go_sem,Y]),wn,(by simp [go_sem,Y]),wn,wj,(by exact j),(by exact hstep)⟩)
  .have Y:=xa4 Y C (aA C) (Eq.symm T) (aA r) (xb0 (aA v) (aA A) (Eq.symm hV) @Slot.c.eq_1 @cL.eq_1 u I @lC @cB.eq_1 hc.1 hc.2 (g hc.1));refine wp (h:=eH (r7 x.y o.1 (by rw [j.l1];exact K) j.bo) wr wl rfl ?_);refine mA (λa=>?_) λa=>?_
   .have hR:=eW (n.2 (by first|simpa using a|simpa [g hc.1] using a|simpa [f] using a));exact wv (h:=O _ _ (by simp [go_sem,hR]))
   .have hstep:=n.1 (by first|simpa using a|simpa [g hc.1] using a|simpa [f] using a);exact wp (h:=wx B (i+1) ⟨o,wg,(by simp [go_sem,Y]),wn,(by simp [go_sem,Y]),wn,wj,(by exact j),(by exact hstep)⟩)
  .have Y:=xa4 Y C (aA C) (Eq.symm T) (aA r) (xb0 (aA v) (aA A) (Eq.symm hV) @Slot.c.eq_1 @cL.eq_1 u I @lC @cB.eq_1 hc.1 hc.2 (g hc.1));refine wp (h:=eH (r7 x.y o.1 (by rw [j.l1];exact K) j.bo) wr wl rfl ?_);refine mA (λa=>?_) λa=>?_
   .have hR:=eW (n.2 (by first|simpa using a|simpa [g hc.1] using a|simpa [f] using a));exact wv (h:=O _ _ (by simp [go_sem,hR]))
   .have hstep:=n.1 (by first|simpa using a|simpa [g hc.1] using a|simpa [f] using a);exact wp (h:=wx B (i+1) ⟨o,wg,(by simp [go_sem,Y]),wn,(by simp [go_sem,Y]),wn,wj,(by exact j),(by exact hstep)⟩)
 .rw [aG aD] at G;have L:=p5 G;have u:=q.l1;have Y:=wa Y u;refine wv (h:=bC (λk e H=>(e 3=.adr p.c/\e 4=.adr h.c/\e 5=.adr m.c/\e 8=.own 0 p.vars.toNat/\e 14=dI k)/\(H.get 0=some ⟨3,1,l.1.map cI,false⟩)/\(0<H.next)/\(k<=p.E.length)/\((p.E.take k).all (λx=>A6 x l.1)=true)) (λk=>p.E.length - k) 0 ⟨wg,wn,wn,wi,(by rfl)⟩ λI2 a3 k e H a1=>?_);obtain ⟨E2,W,R,Z,w⟩:=a1;have Y:=xa2 Y E2 W (cW R);refine wv (h:=?_);repeat first|intro _|refine ⟨fS,?_⟩
  refine wq (λs=>?_) λs=>?_
  .have Y:=xa2 Y s (aA s) @Test.c.eq_1;refine wp (h:=eH (Oq p.E[k] l.1 (by rw [q.l1];exact M.d2 _ (aC s)) q.bo) wr wl rfl ?_);refine mA (λN=>?_) λN=>?_
   .have hR:eX p h m []=([],16):=by
     rw [L,if_neg];intro ha;rw [b9] at ha;have:=ha _ (aC s);simp [this] at N
    exact wv (h:=O _ _ (by simp [go_sem,hR]))
   .exact wp (h:=wx a3 (k+1) ⟨wg,wn,wn,wj,(by rw [List.take_succ_eq_append_getElem s,oW,w];simp;simpa using N)⟩)
  .rw [aG aD] at w;rw [if_pos w] at L;exact wv (h:=O _ _ (by simp [go_sem,Y,L,dLI]))
def sE (t:Types)(p:Pattern)(h:Host):Int:=if c8 t p≠0 then c8 t p else fM t h
theorem EV (t:Types)(b:t.ok)(p:Pattern)(h:Host):Pua 166 [t.d,p.d,h.d] (dI (sE t p h)):=by
 refine Tz.p0 func166 rfl λQ e _=>?_;have Y:=wa @Host.d.eq_1 @Host.c.eq_1;refine wv (h:=aB (u4 t b p) wl ?_);refine dR (λa=>?_) λa=>?_
 .exact wv (h:=e _ _ (by simp [go_sem,sE,a]))
 .refine wv (h:=aB (jH t b h) wl ?_);exact wv (h:=e _ _ (by simp [go_sem,sE,a,fM]))
theorem N6 (t:Types)(i:t.ok)(p:Pattern)(h:Host)(m:Part):Pua 170 [t.d,p.d,h.d,m.d] (.tup [dLI (eF t p h m).1,dI (eF t p h m).2]):=by
 refine Tz.p0 func170 rfl λQ g _=>?_;have Y:=xa2 @Pattern.d.eq_1 @Pattern.c.eq_1 @Host.d.eq_1 @Host.c.eq_1;refine wv (h:=aB (EV t i p h) wl ?_);refine dR (λa=>?_) λa=>?_
 .have e:eF t p h m=([],sE t p h):=by
   unfold eF sE;unfold sE at a;by_cases b:c8 t p=0
   .rw [if_neg aD] at a ⊢;rw [if_pos a,if_neg aD]
   .rw [if_pos b,if_pos b]
  exact wv (h:=g _ _ (by simp [go_sem,e]))
 .have hp0:c8 t p=0:=by
   unfold sE at a;refine aY λb=>?_;rw [if_pos b] at a;exact b a
  have f:fM t h=0:=by unfold sE at a;rw [if_neg aD] at a;exact a
  refine wv (h:=aB (Aa t i p.i h.i m false) wl ?_);refine dR (λj=>?_) λj=>?_
  .have e:eF t p h m=([],checkE t p.i h.i m false):=by unfold eF;rw [if_neg aD,if_neg aD,if_pos j]
   exact wv (h:=g _ _ (by simp [go_sem,e]))
  .have h5':checkE t p.i h.i m false=0:=aD;have e:eF t p h m=eX p h m []:=by unfold eF;rw [if_neg aD,if_neg aD,if_neg aD]
   refine wv (h:=aB (CM p h m (V3 (HA (.inr hp0)) (nB f) (rD (pS h5').2))) wl ?_);exact wv (h:=g _ _ (by simp [go_sem,e]))
theorem Sd (l:List Part):(F6 l).1.length<=5000:=by
 unfold F6;split
 .simp
 .simp only;omega
theorem IL (t:Types)(p g:Graph)(inj:Bool):(mJ t p g inj).1.length<=5000:=by
 unfold mJ;split
 .simp
 .exact Sd _
theorem R5 (t:Types)(p g:Graph)(q:Part)(inj:Bool):(oS t p g q inj).1.length<=5000:=by
 unfold oS;split
 .simp
 .split
  .simp
  .split
   .simp
   .split
    .simp
    .exact Sd _
theorem Lo {t:Types}{p g:Graph}{inj:Bool}{m:Part}(h:m∈(mJ t p g inj).1):MOk t p g m:=by
 unfold mJ at h;split at h
 .cases h
 .unfold F6 at h;split at h
  .cases h
  .exact PL (S:=⟨t,p,g,_,_,inj⟩) (dE h)
theorem Jt (t:Types)(E:t.ok)(p:Pattern)(h:Host)(inj:Bool):Pua 91 [t.d,p.d,h.d,.bool inj] (.tup [.list ((fE t p h inj).1.map Mat.c),dI (fE t p h inj).2]):=by
 refine Tz.pK ⟨λt=>t==13,λ_=>[]⟩ func91 rfl (λQ C=>?_);have Y:=xa2 @Pattern.d.eq_1 @Pattern.c.eq_1 @Host.d.eq_1 @Host.c.eq_1;refine wv (h:=aB (EV t E p h) wl ?_);refine dR (λb=>?_) λb=>?_
 .have hS:fE t p h inj=([],sE t p h):=by
   unfold fE sE;unfold sE at b;by_cases q:c8 t p=0
   .rw [if_neg aD] at b ⊢;rw [if_pos b,if_neg aD]
   .rw [if_pos q,if_pos q]
  exact wv (h:=C _ _ (by simp [go_sem,hS]))
 .have hp0:c8 t p=0:=by
   unfold sE at b;refine aY λq=>?_;rw [if_pos q] at b;exact q b
  have B:fM t h=0:=by unfold sE at b;rw [if_neg aD] at b;exact b
  have k:∀ x∈(mJ t p.i h.i inj).1,MOk t p.i h.i x:=λx I=>Lo I;refine wv (h:=aB (SW t E p.i h.i inj) wl ?_);refine dR (λG=>?_) λG=>?_
  .have hS:fE t p h inj=([],(mJ t p.i h.i inj).2):=by unfold fE;rw [if_neg aD,if_neg aD,if_pos G]
   exact wv (h:=C _ _ (by simp [go_sem,hS]))
  .have hS:fE t p h inj=(tP p h [] (mJ t p.i h.i inj).1,0):=by unfold fE;rw [if_neg aD,if_neg aD,if_neg aD]
   obtain ⟨L,F⟩:=c6 ((mJ t p.i h.i inj).1);have l:=IL t p.i h.i inj;rw [<- F] at hS k l;have D:=k;have Y:=wa Y (Eq.symm F);refine wv (h:=bC (λi e H=>∃ j:List Mat,(e 4=.adr t.c/\e 5=.adr p.c/\e 6=.adr h.c/\e 3=.bool inj/\e 11=.list (L.map Part.c)/\e 13=.own 0 j.length/\e 14=dI i)/\(H.get 0=some ⟨55,3,j.map Mat.c,false⟩)/\(0<H.next)/\(i<=L.length)/\(j=tP p h [] (L.take i))/\(j.length<=i)/\(L.length<=5000)) (λi=>L.length - i) 0 ⟨([]),wg,wn,wn,wi,(by rfl),(by simp),(by exact l)⟩ λN s i e H A=>?_);obtain ⟨j,K,u,o,M,g,J,r⟩:=A;have Y:=xa2 Y K u (cW o);refine mA (λn=>?_) λn=>?_
   .obtain ⟨v,w⟩:=c6 (eX p h L[i] []);obtain ⟨f,a⟩:∃ y,y=j++if v.2=0 then [(⟨L[i],v.1⟩:Mat)] else []:=⟨_,rfl⟩
    have Y:=xa2 Y n (aA n) @Part.c.eq_1;refine wp (h:=aI ((by have z:=CM p h L[i] (V3 (HA (.inr hp0)) (nB B) (D _ (aC n)));rw [<- w] at z;unfold Pattern.d Pattern.c Host.d Host.c Part.d Part.c dLI dI at z;exact z)) wl ?_);refine mA (λm=>?_) λm=>?_
    .have hm3:f=j++[⟨L[i],v.1⟩]:=by rw [a,if_pos (bZ m)]
     have Y:=xa1 Y hm3 @Mat.c.eq_1;exact wp (h:=wx s (i+1) ⟨f,wg,wn,wn,wj,(by rw [List.take_succ_eq_append_getElem n,nK,<- g,<- w];exact a),(by rw [a];split<;>simp<;>omega),(by exact r)⟩)
    .have hm3:f=j:=by rw [a,if_neg (bZ m),dL]
     have Y:=wa Y hm3;exact wp (h:=wx s (i+1) ⟨f,wg,wn,wn,wj,(by rw [List.take_succ_eq_append_getElem n,nK,<- g,<- w];exact a),(by rw [a];split<;>simp<;>omega),(by exact r)⟩)
   .rw [aG aD] at g;exact wv (h:=C _ _ (by simp [go_sem,Y,hS,<- g]))
def Oz (at_ im:V2)(n i:Nat):V2:=(List.range i).foldl (λacc i=>acc.set (at_[i]?.getD 0).toNat (im[i]?.getD 0)) (List.replicate n (-1))
theorem Hz (at_ a:V2)(n i:Nat):Oz at_ a n (i+1)=(Oz at_ a n i).set (at_[i]?.getD 0).toNat (a[i]?.getD 0):=by unfold Oz;rw [eV]
theorem CQ (at_ im:V2)(n:Nat):∀ i,(Oz at_ im n i).length=n
 | 0=>by simp [Oz]
 | i+1=>by rw [Hz,jP];exact CQ at_ im n i
theorem CL (n:Nat)(z:n<=1000000)(at_ a:V2)(v:∀ x∈at_,0<=x/\x<n)(D:at_.length<=a.length):Pua 385 [dI n,dLI at_,dLI a] (dLI (Ag n at_ a)):=by
 refine Tz.pK ⟨λt=>t==7,λ_=>[]⟩ func385 rfl (λQ u=>?_);have Y:=trivial;refine wv (h:=bC (λi e H=>(e 0=dI n/\e 1=dLI at_/\e 2=dLI a/\e 7=.own 0 i/\e 8=dI i)/\(H.get 0=some ⟨3,1,(List.replicate i (-1:Int)).map cI,false⟩)/\(0<H.next)/\(i<=n)) (λi=>n - i) 0 ⟨wg,(by simp [go_sem]),wn,wi⟩ λF r i e H b=>?_);obtain ⟨y,j,d,B⟩:=b;have Y:=xa2 Y y j (cW d);refine dR (λs=>?_) λs=>?_
 .have Y:=wa Y s;exact wp (h:=wx r (i+1) ⟨wg,(by simp [go_sem,Y,Bd,cI]),wn,wj⟩)
 .have hin:i=n:=aD;refine wv (h:=bC (λk e H=>(e 0=dI n/\e 1=dLI at_/\e 2=dLI a/\e 7=.own 0 n/\e 9=dI k)/\(H.get 0=some ⟨3,1,(Oz at_ a n k).map cI,false⟩)/\(0<H.next)/\(k<=at_.length)/\((Oz at_ a n k).length=n)) (λk=>at_.length - k) 0 ⟨wg,(by simp [go_sem,Y,Oz,hin]),wn,wi,(by exact CQ _ _ _ _)⟩ λE q k e H m=>?_);obtain ⟨w,g,c,A,l⟩:=m;have Y:=xa3 Y w g (cW c) l;refine wv (h:=?_);repeat first|intro _|refine ⟨fS,?_⟩
  refine wq (λf=>?_) λf=>?_
  .have hki:k<a.length:=aD;have C:=v _ (aC f);have p:at_[k]?.getD 0=at_[k]:=by rw [aA f];rfl
   have b:a[k]?.getD 0=a[k]:=by rw [aA hki];rfl
   have o:at_[k].toNat<(Oz at_ a n k).length:=aD;have Y:=xa3 Y f (aA f) (aA hki) (aA o);exact wp (h:=wx q (k+1) ⟨wg,(by simp [go_sem,Y,Hz,dB,p,b,cI]),wn,wj,(by exact CQ _ _ _ _)⟩)
  .have hP:Ag n at_ a=Oz at_ a n k:=by unfold Ag Oz;rw [(aD:k=at_.length)]
   exact wv (h:=u _ _ (by simp [go_sem,Y,hP,dLI]))
def Mj (len i:Nat):List Bool:=(List.range i).map λj=>decide (j<len)
theorem US (len i:Nat):Mj len (i+1)=Mj len i++[decide (i<len)]:=by simp [Mj,dO]
theorem Mh (len i:Nat):(Mj len i).length=i:=by simp [Mj]
theorem Mi (len n:Nat)(h:len<=n):Mj len n=List.replicate len true++List.replicate (n - len) false:=by
 apply e9 (by simp [Mj];omega);intro i b a;simp only [Mj,g9,qY,List.getElem_append,List.getElem_replicate,fI];split
 .rename_i h3;simpa using h3
 .rename_i h3;simpa using h3
theorem Wn (len i n:Nat)(h:i<n):(Mj len i++List.replicate (n - i) false).set i (decide (i<len))=Mj len (i+1)++List.replicate (n - (i+1)) false:=by
 rw [nI _ _ (by rw [Mh];omega),Mh,uV,US,show n - i=(n - (i+1))+1 by omega,pV];simp
def Tr (len n i:Nat):List Bool:=Mj len i++List.replicate (n - i) false
theorem UT (len n:Nat):Tr len n 0=List.replicate n false:=by simp [Tr,Mj]
theorem Wp {len n i:Nat}(h:i<=n):(Tr len n i).length=n:=by simp [Tr,Mh];omega
theorem Wo {len n i:Nat}(h:i<n):(Tr len n i).set i (decide (i<len))=Tr len n (i+1):=Wn len i n h
theorem RR (len n:Nat):Tr len n n=Mj len n:=by simp [Tr]
def IR (vs:V2)(i:Nat):V2:=vs++List.replicate (i - vs.length) 0
theorem Nj (vs:V2)(i:Nat):IR vs (i+1)=if vs.length<=i then IR vs i++[0] else IR vs i:=by
 unfold IR;split
 .rename_i h;rw [(aD:i+1 - vs.length=(i - vs.length)+1),Bd,List.append_assoc]
 .rename_i h;rw [(aD:i+1 - vs.length=0),(aD:i - vs.length=0)]
theorem Rt (vs:V2)(i:Nat):(IR vs i).length=max vs.length i:=by simp [IR];omega
theorem Ud {x:Test}{vs:V2}{n:Nat}(a:IQ x n):A6 x vs = !((decide (x.B=1)&&decide (dM x.right vs<dM x.left vs))||(decide (x.B=2)&&!decide (dM x.left vs=dM x.right vs))):=by
 rcases a.1 with h|h
 .unfold A6;rw [h];simp;rw [aT];simp
 .unfold A6;rw [h];simp
theorem L3 (p:Pattern)(h:Host)(m:Part)(U:SOk p h m)(vs:V2)(hl:vs.length<=p.vars.toNat)(hs:∀ v∈vs,-2000000<=v/\v<=2000000) :
  Pua 387 [p.d,h.d,m.d,dLI vs] (.tup [dLI (eX p h m vs).1,.bool (decide ((eX p h m vs).2=0))]):=by
 have hv:=U.vars;have h0:=Nz hv.1 hl hs;have a3:IR vs 0=vs:=by simp [IR]
 have L:LD p vs=(IR vs p.vars.toNat,Mj vs.length p.vars.toNat):=by unfold LD;rw [Mi _ _ hl];rfl
 refine Tz.pK ⟨λt=>t==14||t==19||t==24,λr=>match r with|15=>[(5,14),(6,14),(7,14)]|_=>[]⟩ func387 rfl (λQ W=>?_);have Y:=xa6 a3 @Pattern.d.eq_1 @Pattern.c.eq_1 @Host.d.eq_1 @Host.c.eq_1 @Part.d.eq_1 @Part.c.eq_1 @Term.c.eq_1;refine wp (h:=bC (λi e H=>(e 4=.adr p.c/\e 5=.adr h.c/\e 6=.adr m.c/\e 3=dLI vs/\e 10=.own 0 (IR vs i).length/\e 11=.own 1 p.vars.toNat/\e 12=dI i)/\(H.get 0=some ⟨3,1,(IR vs i).map cI,false⟩)/\(0<H.next)/\(H.get 1=some ⟨4,1,(Tr vs.length p.vars.toNat i).map cB,false⟩)/\(1<H.next)/\(i<=p.vars.toNat)) (λi=>p.vars.toNat - i) 0 ⟨wg,(by simp [go_sem,IR]),wn,(by simp [go_sem,UT,cB]),wn,wi⟩ λI0 a8 i e H b7=>?_);obtain ⟨E0,b3,a2,b0,Z,hi⟩:=b7;have Y:=xa4 Y E0 b3 (cW a2) b0 (cW Z);refine dR (λh4=>?_) λh4=>?_
 .have hI:=Rt vs i;have hK:=Wo (len:=vs.length) (n:=p.vars.toNat) (i:=i) aD;have c0:=Wp (len:=vs.length) (n:=p.vars.toNat) (i:=i) aD;have c1:i<(Tr vs.length p.vars.toNat i).length:=aD;have b8:((Tr vs.length p.vars.toNat i).map cB).set i [.bool (decide (i<vs.length))]=(Tr vs.length p.vars.toNat (i+1)).map cB:=by rw [<- hK,dB];rfl
  have Y:=xa3 Y h4 c0 (aA c1) b8;refine mA (λh7=>?_) λh7=>?_
  .have hVs:IR vs (i+1)=IR vs i++[0]:=by rw [Nj,if_pos aD]
   have Y:=wa Y hVs;exact wp (h:=wx a8 (i+1) ⟨wg,(by simp [go_sem,Y]),wn,(by simp [go_sem,Y]),wn,wj⟩)
  .have hVs:IR vs (i+1)=IR vs i:=by rw [Nj,if_neg aD]
   have Y:=wa Y hVs;exact wp (h:=wx a8 (i+1) ⟨wg,(by simp [go_sem,Y]),wn,(by simp [go_sem,Y]),wn,wj⟩)
 .have hin:i=p.vars.toNat:=aD;have hI:=Rt vs i;rw [hin,Nat.max_eq_right hl] at hI;have c7:Tr vs.length i i=Mj vs.length i:=RR _ _;have a7:=RR vs.length p.vars.toNat
  have Y:=xa2 Y hin hI a7;refine wv (h:=bC (λi e H=>∃ o:V2 × List Bool,(e 4=.adr p.c/\e 5=.adr h.c/\e 6=.adr m.c/\e 3=dLI vs/\e 10=.own 0 p.vars.toNat/\e 11=.own 1 p.vars.toNat/\e 13=dI i)/\(H.get 0=some ⟨3,1,o.1.map cI,false⟩)/\(0<H.next)/\(H.get 1=some ⟨4,1,o.2.map cB,false⟩)/\(1<H.next)/\(i<=p.o.length)/\(StOk p.vars.toNat o)/\(slotsV h m (LD p vs) (p.o.take i)=some o)) (λi=>p.o.length - i) 0 ⟨((IR vs p.vars.toNat,Mj vs.length p.vars.toNat)),wg,(by simp [go_sem,Y,hin]),wn,(by simp [go_sem,Y,hin,a7]),wn,wi,(by rw [<- L];exact h0),(by rw [L];rfl)⟩ λI2 J i e H b6=>?_);obtain ⟨o,E2,b2,a1,a9,X,hi,q,P⟩:=b6;have Y:=xa4 Y E2 b2 (cW a1) a9 (cW X);refine wv (h:=?_);repeat first|intro _|refine ⟨fS,?_⟩
  refine wq (λu=>?_) λu=>?_
  .obtain ⟨x,hx⟩:=c6 (p.o[i]);have F:x∈p.o:=hx ▸ aC u;have hn:=U.node x F;have A:x.node.toNat<m.h.length:=aD;have hk:=U.bO _ (aC A);have w:(m.h[x.node.toNat]).toNat<h.k.length:=aD;have ha:=U.H x F;rw [aA A,Option.getD_some,aA w,Option.getD_some] at ha;have G:x.H.toNat<(h.k[(m.h[x.node.toNat]).toNat]).length:=aD;have hV:haveV h m x=h.k[(m.h[x.node.toNat]).toNat][x.H.toNat]:=by unfold haveV;rw [aA A,Option.getD_some,aA w,Option.getD_some,aA G];rfl
   have hb:=U.cA F;have M:=U.y x F;have C:=q.l1;have R:=q.l2;have c4:=M.1;have c5:=M.2;have s:=uY u P;rw [<- hx] at s;obtain ⟨z,g⟩:∃ y,y=lX h m o x:=⟨_,rfl⟩;have l:StOk p.vars.toNat z:=g ▸ zU q hb M;rw [<- g] at s;have j:¬ 0<=x.y.O->z=o:=λhn=>by rw [g];unfold lX lT;rw [if_neg (by simp [hn])]
   have N:0<=x.y.O->x.y.O.toNat<o.2.length:=λhn=>by omega
   obtain ⟨kb,a4⟩:=c6 (o.2[x.y.O.toNat]?.getD false);have S:0<=x.y.O\/(¬ 0<=x.y.O/\o.2[x.y.O.toNat]?=none)\/(¬ 0<=x.y.O/\o.2[x.y.O.toNat]?=some kb):=by
    by_cases O:0<=x.y.O
    .exact .inl O
    .right
     cases ho:o.2[x.y.O.toNat]? with
     | none=>exact .inl ⟨O,rfl⟩
     | some b=>rw [ho] at a4;exact .inr ⟨O,by rw [a4];rfl⟩
   rcases S with hc|hc|hc
   .have Y:=xa3 Y u (aA u) (Eq.symm hx) (xb0 (aA A) (aA w) (aA G) (Eq.symm hV) @Slot.c.eq_1 @cL.eq_1 C R @lC @cB.eq_1 hc ((aA (N hc))));refine mA (λV=>?_) λV=>?_
    .have hF:lT o x=true:=by simp only [lT,aL,decide_eq_true_eq,cX];exact ⟨hc,by simpa [aA (N hc)] using V⟩
     unfold lX at g;rw [if_pos hF] at g;have b4:x.y.O.toNat<o.1.length:=aD;have e1:z.1.map cI=(o.1.map cI).set x.y.O.toNat (cI (haveV h m x - x.y.add)):=by rw [g,dB]
     have e2:z.2.map cB=(o.2.map cB).set x.y.O.toNat (cB true):=by rw [g,dB]
     have c3:D.R ((o.1.map cI).set x.y.O.toNat [D.int .i64 (haveV h m x - x.y.add)])=true:=by have:=rX z.1;rw [e1] at this;exact this
     have Y:=xa5 Y e1 e2 @dLI.eq_1 @cI.eq_1 (aA b4) c3;refine wp (h:=eH (kI x.y z.1 (by rw [l.l1];exact M) l.bo) wr wl rfl ?_);refine mA (λf=>?_) λf=>?_
     .have I:=eW (s.2 (by first|simpa using f|simpa [j hc.1] using f|simpa [g] using f));exact wv (h:=W _ _ (by simp [go_sem,I]))
     .have hstep:=s.1 (by first|simpa using f|simpa [j hc.1] using f|simpa [g] using f);exact wp (h:=wx J (i+1) ⟨z,wg,(by simp [go_sem,Y]),wn,(by simp [go_sem,Y]),wn,wj,(by exact l),(by exact hstep)⟩)
    .have hF:¬ lT o x=true:=by simp only [lT,aL,decide_eq_true_eq,cX];rintro ⟨_,hk⟩;simp [aA (N hc)] at hk;simp [hk] at V
     unfold lX at g;rw [if_neg hF] at g;have Y:=wa Y g;refine wv (h:=eH ((by first|exact kI x.y z.1 (by rw [l.l1];exact M) l.bo|exact kI p.E[k].left o.1 (by rw [q.l1];exact hX.2.1) q.bo)) wr wl rfl ?_);refine dR (λf=>?_) λf=>?_
     .have I:=eW (s.2 (by first|simpa using f|simpa [j hc.1] using f|simpa [g] using f));exact wv (h:=W _ _ (by simp [go_sem,I]))
     .have hstep:=s.1 (by first|simpa using f|simpa [j hc.1] using f|simpa [g] using f);exact wp (h:=wx J (i+1) ⟨z,wg,(by simp [go_sem,Y]),wn,(by simp [go_sem,Y]),wn,wj,(by exact l),(by exact hstep)⟩)
   .have Y:=xa4 Y u (aA u) (Eq.symm hx) (aA A) (xb0 (aA w) (aA G) (Eq.symm hV) @Slot.c.eq_1 @cL.eq_1 C R @lC @cB.eq_1 hc.1 hc.2 (j hc.1));refine wp (h:=eH (kI x.y z.1 (by rw [l.l1];exact M) l.bo) wr wl rfl ?_);refine mA (λf=>?_) λf=>?_
    .have I:=eW (s.2 (by first|simpa using f|simpa [j hc.1] using f|simpa [g] using f));exact wv (h:=W _ _ (by simp [go_sem,I]))
    .have hstep:=s.1 (by first|simpa using f|simpa [j hc.1] using f|simpa [g] using f);exact wp (h:=wx J (i+1) ⟨z,wg,(by simp [go_sem,Y]),wn,(by simp [go_sem,Y]),wn,wj,(by exact l),(by exact hstep)⟩)
   .have Y:=xa4 Y u (aA u) (Eq.symm hx) (aA A) (xb0 (aA w) (aA G) (Eq.symm hV) @Slot.c.eq_1 @cL.eq_1 C R @lC @cB.eq_1 hc.1 hc.2 (j hc.1));refine wp (h:=eH (kI x.y z.1 (by rw [l.l1];exact M) l.bo) wr wl rfl ?_);refine mA (λf=>?_) λf=>?_
    .have I:=eW (s.2 (by first|simpa using f|simpa [j hc.1] using f|simpa [g] using f));exact wv (h:=W _ _ (by simp [go_sem,I]))
    .have hstep:=s.1 (by first|simpa using f|simpa [j hc.1] using f|simpa [g] using f);exact wp (h:=wx J (i+1) ⟨z,wg,(by simp [go_sem,Y]),wn,(by simp [go_sem,Y]),wn,wj,(by exact l),(by exact hstep)⟩)
  .rw [aG aD] at P;have T:=p5 P;have C:=q.l1;have Y:=wa Y C;refine wv (h:=bC (λk e H=>(e 4=.adr p.c/\e 5=.adr h.c/\e 6=.adr m.c/\e 3=dLI vs/\e 10=.own 0 p.vars.toNat/\e 18=dI k)/\(H.get 0=some ⟨3,1,o.1.map cI,false⟩)/\(0<H.next)/\(k<=p.E.length)/\((p.E.take k).all (λx=>A6 x o.1)=true)) (λk=>p.E.length - k) 0 ⟨wg,wn,wn,wi,(by rfl)⟩ λI4 c2 k e H b5=>?_);obtain ⟨E4,b1,a0,hk,E⟩:=b5;have Y:=xa2 Y E4 b1 (cW a0);refine wv (h:=?_);repeat first|intro _|refine ⟨fS,?_⟩
   refine wq (λB=>?_) λB=>?_
   .have hX:=U.d2 _ (aC B);have a6:=Ud (vs:=o.1) hX;have Y:=xa2 Y B (aA B) @Test.c.eq_1;refine wp (h:=eH ((by first|exact kI x.y z.1 (by rw [l.l1];exact M) l.bo|exact kI p.E[k].left o.1 (by rw [q.l1];exact hX.2.1) q.bo)) wr wl rfl ?_);refine wp (h:=eH (kI p.E[k].right o.1 (by rw [q.l1];exact hX.2.2) q.bo) wr wl rfl ?_);refine mA (λK=>?_) λK=>?_
    .have hT0:A6 p.E[k] o.1=false:=by
      rw [a6,Bool.not_eq_false'];rcases K with ⟨a,b⟩|⟨a,b⟩
      .simp [a,b]
      .simp [a,b]
     have I:eX p h m vs=([],16):=by
      rw [T,if_neg];intro ha;rw [b9] at ha;have:=ha _ (aC B);rw [hT0] at this;cases this
     exact wv (h:=W _ _ (by simp [go_sem,I]))
    .have hT1:A6 p.E[k] o.1=true:=by
      rw [a6];simp;exact ⟨by by_cases a5:p.E[k].B=1;exact .inr (K.1 a5);exact .inl a5,by by_cases w:p.E[k].B=2;exact .inr (K.2 w);exact .inl w⟩
     exact wp (h:=wx c2 (k+1) ⟨wg,wn,wn,wj,(by rw [List.take_succ_eq_append_getElem B,oW,E];simp;exact hT1)⟩)
   .rw [aG aD] at E;rw [if_pos E] at T;exact wv (h:=W _ _ (by simp [go_sem,Y,T,dLI]))
/-! ### extensions -/
structure MatOk (t:Types) (p:Pattern) (h:Host) (m:Mat):Prop where
 gi:MOk t p.i h.i m.m
 vl:m.vars.length=p.vars.toNat
 vs:∀ v∈m.vars,-2000000<=v/\v<=2000000
structure ExOk (t:Types) (p:Pattern) (mp:Part) (q:Pattern):Prop where
 pq:PatOk t q
 pv:p.vars<=q.vars
 p0:0<=p.vars
 mo:eK p.i q.i mp=0
theorem ExOk.bO {t:Types}{p:Pattern}{a:Part}{q:Pattern}(h:ExOk t p a q):(a.h.length=p.i.h.length/\a.j.length=p.i.j.length)/\(∀ x∈a.h,0<=x/\x<q.i.h.length)/\(∀ x∈a.j,0<=x/\x<q.i.j.length):=by
 have:=kK h.mo;exact ⟨this.2.2,(tG h.mo).1,(tG h.mo).2⟩
theorem Ih {t:Types}{p g:Graph}{q:Part}{inj:Bool}{m:Part}(h:m∈(oS t p g q inj).1):MOk t p g m:=by
 unfold oS at h;split at h
 .cases h
 .split at h
  .cases h
  .split at h
   .cases h
   .split at h
    .cases h
    .unfold F6 at h;split at h
     .cases h
     .exact PL (S:=⟨t,p,g,_,_,inj⟩) (dE h)
theorem T3 {t:Types}{q:Pattern}{h:Host}{vars:V2}{l:List Part}(hp:PatOk t q)(ho:HostOk t h)(hl:∀ x∈l,MOk t q.i h.i x)(hv:vars.length<=q.vars.toNat)(hs:∀ v∈vars,-2000000<=v/\v<=2000000):∀ m∈tP q h vars l,MatOk t q h m:=λm hm=>by
 unfold tP at hm;rw [List.mem_filterMap] at hm;obtain ⟨x,hx,he⟩:=hm;split at he
 .rename_i h0;cases he
  obtain ⟨h1,h2⟩:=BE (V3 hp ho (hl x hx)) hv hs h0;exact ⟨hl x hx,h1,h2⟩
 .cases he
theorem R6 {t:Types}{p:Pattern}{b:Part}{q:Pattern}{h:Host}{m:Mat}{inj:Bool}(a:ExOk t p b q)(e:HostOk t h)(c:MatOk t p h m):∀ x∈(zI t b q h m inj).1,MatOk t q h x:=by
 unfold zI;split
 .simp
 .exact T3 a.pq e (λx d=>Ih d) (by have:=c.vl;have:=a.pv;have:=a.p0;omega) c.vs
theorem D6 (t:Types)(M:t.ok)(p:Pattern)(c:Cond)(w:ExOk t p c.map c.l)(h:Host)(N:HostOk t h)(m:Mat)(A:MatOk t p h m)(inj:Bool) :
  Pua 339 [t.d,.agg c.c,h.d,m.d,.bool inj] (.tup [.list ((zI t c.map c.l h m inj).1.map Mat.c),dI (zI t c.map c.l h m inj).2]):=by
 obtain ⟨⟨T,S⟩,F,E⟩:=w.bO;have k:=bI w.pq.gg;have P:=A.gi.len;have O:=A.gi.cb;refine Tz.pK ⟨λt=>t==12||t==13||t==16,λr=>match r with|2=>[(0,23),(1,23),(2,23),(3,23),(4,23),(5,23),(6,23),(7,23),(8,23),(9,23),(10,23),(11,23),(12,23),(13,23),(14,23),(15,23),(16,23),(17,23),(18,23),(19,23),(20,23),(21,23)]|_=>[]⟩ func339 rfl (λQ J=>?_);obtain ⟨X,B⟩:=c6 (oS t c.l.i h.i (qE c.map c.l m.m) inj);have I:∀ x∈X.1,MOk t c.l.i h.i x:=λx L=>Ih (B ▸ L);have U:X.1.length<=5000:=B ▸ R5 _ _ _ _ _;have C:m.vars.length<=c.l.vars.toNat:=by have:=A.vl;have:=w.pv;have:=w.p0;omega
 have g:zI t c.map c.l h m inj=if X.2≠0 then ([],X.2) else (tP c.l h m.vars X.1,0):=by unfold zI;rw [<- B]
 have Y:=xa3 @Cond.x @Host.d.eq_1 @Host.c.eq_1 @Mat.d.eq_1 @Mat.c.eq_1;refine wp (h:=aI (CL c.l.i.h.length aD c.map.h m.m.h F aD) wl ?_);refine wp (h:=aI (CL c.l.i.j.length aD c.map.j m.m.j E aD) wl ?_);refine wp (h:=aB ((by have k:=L5 t M c.l.i h.i (qE c.map c.l m.m) inj;rw [<- B] at k;unfold qE Types.d Types.c Graph.d Graph.c Part.d Part.c dLI at k;exact k)) wl ?_);refine mA (λK=>?_) λK=>?_
 .rw [if_pos K] at g;exact wv (h:=J _ _ (by simp [go_sem,g]))
 .rw [if_neg aD] at g;refine wv (h:=bC (λi e H=>∃ j:List Mat,(e 5=.adr t.c/\e 6=.adr c.c/\e 7=.adr h.c/\e 8=.adr m.c/\e 4=.bool inj/\e 12=.ptr 0 1 0 0/\e 14=.list (X.1.map Part.c)/\e 16=.own 26 j.length/\e 17=dI i)/\(H.get 0=some ⟨33,5,[c.l.c],false⟩)/\(0<H.next)/\(H.get 26=some ⟨55,3,j.map Mat.c,false⟩)/\(26<H.next)/\(i<=X.1.length)/\(j=tP c.l h m.vars (X.1.take i))/\(j.length<=i)) (λi=>X.1.length - i) 0 ⟨([]),wg,wn,wn,wn,wn,wi,(by rfl),(by simp)⟩ λZ u i e H G=>?_);obtain ⟨j,V,z,s,o,l,W,f,R⟩:=G;have Y:=xa4 Y V z (cW s) o (cW l);refine mA (λq=>?_) λq=>?_
  .obtain ⟨v,D⟩:=c6 (eX c.l h X.1[i] m.vars);obtain ⟨b,a⟩:∃ y,y=j++if v.2=0 then [(⟨X.1[i],v.1⟩:Mat)] else []:=⟨_,rfl⟩
   have Y:=xa3 Y q (aA q) @Part.c.eq_1 @Pattern.c.eq_1;refine wp (h:=aI ((by have k:=L3 c.l h X.1[i] (V3 w.pq N (I _ (aC q))) m.vars C A.vs;rw [<- D] at k;unfold Pattern.d Pattern.c Host.d Host.c Part.d Part.c dLI at k;exact k)) wl ?_);refine mA (λn=>?_) λn=>?_
   .have hm3:b=j++[⟨X.1[i],v.1⟩]:=by rw [a,if_pos (bZ n)]
    have Y:=wa Y hm3;exact wp (h:=wx u (i+1) ⟨b,wg,wn,wn,wn,wn,wj,(by rw [List.take_succ_eq_append_getElem q,nK,<- f,<- D];exact a),(by rw [a];split<;>simp<;>omega)⟩)
   .have hm3:b=j:=by rw [a,if_neg (bZ n),dL]
    have Y:=wa Y hm3;exact wp (h:=wx u (i+1) ⟨b,wg,wn,wn,wn,wn,wj,(by rw [List.take_succ_eq_append_getElem q,nK,<- f,<- D];exact a),(by rw [a];split<;>simp<;>omega)⟩)
  .rw [aG aD] at f;exact wv (h:=J _ _ (by simp [go_sem,Y,g,<- f]))
end Go.Abs
end
