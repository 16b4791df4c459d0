/- The condition of a drafted rule; the rule. · The rule of a d -/
import Derived.Test.YtpdanmkcpjdmjaaGreatZkAF
import Derived.Test.YtpdanmkcpjdmjaaGreatZkAA
import Derived.Test.YtpdanmkcpjdmjaaGreatZkAL
import Derived.Test.YtpdanmkcpjdmjaaGreatZkAK
import Derived.Test.YtpdanmkcpjdmjaaGreatZkAJ
set_option linter.unusedVariables false
set_option linter.unusedSimpArgs false
section
set_option maxRecDepth 100000
set_option maxHeartbeats 4000000
open Go Go.Proofs Tryz
namespace Go.Abs
theorem De (a b:UE):eE (a++b)=eE a++eE b:=by simp [w9]
def forbC (p:Pattern)(g:Graph):Cond:=.mk 2 [.mk 5 [trueC] ⟨gB p.j.h.length,gB p.j.i.length⟩ ⟨g,[],p.vars,[]⟩] ⟨[],[]⟩ ⟨⟨[],[]⟩,[],0,[]⟩
def EK (t:Types)(p:Pattern)(x:B4):Cond :=
 if (x.1.toNat:Int).tmod 4=1 then forbC p ⟨p.j.h++[(x.2.1.toNat:Int).tmod t.h.length],p.j.i⟩
 else if (x.1.toNat:Int).tmod 4=2 then
  if p.j.h.length=0\/t.i.length=0 then trueC
  else forbC p ⟨p.j.h,p.j.i++[⟨(x.2.1.toNat:Int).tmod t.i.length,(x.2.2.1.toNat:Int).tmod p.j.h.length,(x.2.2.2.toNat:Int).tmod p.j.h.length⟩]⟩
 else trueC
theorem MB (t:Types)(s:t.a8)(p:Pattern)(h1:p.j.h.length<=1000)(h2:p.j.i.length<=1000)(x:B4):Pua 44 [t.d,p.d,.agg (cU4 x)] (.agg (EK t p x).c):=by
 have K:=s.ok.aT;have L:=s.ok.bI;have k:=s.aj.ne;have I:=j6 x.1;have H:=j6 x.2.1;have G:=j6 x.2.2.1;have F:=j6 x.2.2.2;refine pS (by first|rfl|(simp [go_sem];done)) (λQ o=>(Tz.cK ⟨λt=>t==6||t==7||t==9||t==10,λr=>match r with|6=>[(0,9),(1,9)]|10=>[(0,20),(1,20)]|_=>[]⟩ func44 rfl ?_));have Y:=@cU4.eq_1;refine wv (h:=?_);unfold fE;refine oD p.j aD aD _ _ (λa b n T O R P M v u w J=>?_);have U:(0:Nat)<n.next:=aD;have S:a≠0:=by simp [go_sem] at T;omega
 have N:b≠0:=by simp [go_sem] at O;omega
 have l:=w 0 (by simp [go_sem]);simp [go_sem] at l;have E:=Qr n.next;have z:=xa1 (bL (aD:a<n.next)) (bL (aD:b<n.next)) (bL (aD:0<n.next));have A:=xa1 (cY (aD:0≠b)) (cY (aD:0≠a)) (cY (aD:b≠a));have Y:=xa5 Y z A v u l E;refine i7 (λm=>?_) λm=>?_
 .have C:=dY (aD:0<=(x.2.1.toNat:Int)) (aD:(0:Int)<t.h.length);have i:¬t.h=[]:=by intro h;rw [h] at k;simp at k
  have f:(t.h.length:Int)≠0:=aD;have g:EK t p x=forbC p ⟨p.j.h++[(x.2.1.toNat:Int).tmod t.h.length],p.j.i⟩:=by unfold EK;rw [if_pos m]
  have Y:=xa8 Y f g @forbC.eq_1 @trueC.eq_1 @Cond.A @Cond.E.eq_1 @Cond.s.eq_1 @Cond.map.eq_1 @Cond.o.eq_1;refine wp (h:=aB (OT p.j aD aD) wl ?_);refine wp (h:=?_);exact o _ _ (by simp [go_sem,Y,d9,pX,De])
 .refine dK (λq=>?_) λq=>?_
  .refine i7 (λy=>?_) λy=>?_
   .have g:EK t p x=trueC:=by unfold EK;rw [if_neg m,if_pos q,if_pos (y.imp (λh=>by rw [h];rfl) (λh=>by rw [h];rfl))]
    have Y:=xa6 Y g @trueC.eq_1 @Cond.A @Cond.E.eq_1 @Cond.s.eq_1 @Cond.map.eq_1 @Cond.o.eq_1;refine wv (h:=?_);exact o _ _ (by simp [go_sem,g,trueC,Cond.A,Cond.E,Cond.s,Cond.map,Cond.o]<;>first|omega|(rw [aS];simp<;>omega)|(simp_all<;>omega))
   .have hn0:0<p.j.h.length/\0<t.i.length:=by constructor<;>(apply gI.2;intro h;simp [h] at y)
    have i:¬p.j.h=[]:=gI.1 hn0.1;have B:¬t.i=[]:=gI.1 hn0.2;have C:=dY (aD:0<=(x.2.1.toNat:Int)) (aD:(0:Int)<t.i.length);have Z:=dY (aD:0<=(x.2.2.1.toNat:Int)) (aD:(0:Int)<p.j.h.length);have X:=dY (aD:0<=(x.2.2.2.toNat:Int)) (aD:(0:Int)<p.j.h.length);have f:(t.i.length:Int)≠0:=aD;have j:(p.j.h.length:Int)≠0:=aD;have g:EK t p x=forbC p ⟨p.j.h,p.j.i++[⟨(x.2.1.toNat:Int).tmod t.i.length,(x.2.2.1.toNat:Int).tmod p.j.h.length,(x.2.2.2.toNat:Int).tmod p.j.h.length⟩]⟩:=by unfold EK;rw [if_neg m,if_pos q,if_neg aD]
    have Y:=xa9 Y f j g @forbC.eq_1 @trueC.eq_1 @Cond.A @Cond.E.eq_1 @Cond.s.eq_1 @Cond.map.eq_1 @Cond.o.eq_1;refine wp (h:=aB (OT p.j aD aD) wl ?_);refine wp (h:=?_);exact o _ _ (by simp [go_sem,Y,d9,pX,De,Edge.c])
  .have g:EK t p x=trueC:=by unfold EK;rw [if_neg m,if_neg q]
   have Y:=xa6 Y g @trueC.eq_1 @Cond.A @Cond.E.eq_1 @Cond.s.eq_1 @Cond.map.eq_1 @Cond.o.eq_1;refine wv (h:=?_);exact o _ _ (by simp [go_sem,g,trueC,Cond.A,Cond.E,Cond.s,Cond.map,Cond.o]<;>first|omega|(rw [aS];simp<;>omega)|(simp_all<;>omega))
theorem Ls (b:List Bool):(FI b).length<=b.length:=by
 unfold FI XN;rw [aT];exact dH (iT _ _) dB
theorem Qc (k:UInt64)(a n:Nat):(Gz k a n).length=n:=by simp [Gz]
theorem Lu (g:Graph)(k:UInt64):(BG g k).h.length<=g.h.length/\(BG g k).i.length<=g.i.length:=by
 refine ⟨dH (Ls _) (by rw [t8,Qc];exact aZ _),dH (Ls _) (by rw [Qc];exact aZ _)⟩
theorem DD (g:Graph)(p:Part):(bZ g p).h.length<=p.h.length/\(bZ g p).i.length<=p.i.length:=by grind [bZ]
def Au (t:Types)(d:Dr24):Part:=BG (kC t d.left).j d.q
def Px (t:Types)(d:Dr24):Graph:=bZ (kC t d.left).j (Au t d)
def PE (t:Types)(d:Dr24):Graph:=uB t (Px t d) d
def J1 (t:Types)(d:Dr24):Graph:=Oo (PE t d) (Ac (PE t d).h.length d.aG) (Ac (PE t d).i.length d.aG)
def Ej (t:Types)(d:Dr24):Rule :=
 ⟨⟨#[114]⟩,kC t d.left,⟨J1 t d,CI t (J1 t d).h (kC t d.left).vars d.l,(kC t d.left).vars,[]⟩,Au t d,
  ⟨(Ac (PE t d).h.length d.aG).take (Px t d).h.length,(Ac (PE t d).i.length d.aG).take (Px t d).i.length⟩,d.inj,EK t (kC t d.left) d.aY⟩
def Ex (t:Types)(d:Dr24):Rule:=if d.plain=true then C4 (Ej t d) else Ej t d
theorem Lw (t:Types)(d:Dr21):(kC t d).j.aU/\(kC t d).j.h.length<=8/\(kC t d).j.i.length<=10/\(0<=(kC t d).vars/\(kC t d).vars<=3):=by
 have b:=Pl t d.j;have a:=Iq t d.j;refine ⟨b,a.1,a.2,?_⟩;show 0<=(uX t d).2/\(uX t d).2<=3;unfold uX;split
 .exact ⟨by simp,by simp⟩
 .have:=GT (S6 t d) d.l (min d.l.length 4);omega
theorem Vh (g:Graph)(p q:W3):(Oo g p q).h.length<=g.h.length/\(Oo g p q).i.length<=g.i.length:=by grind [Oo, CT, CU]
theorem X1 (l:W3)(z:UN)(a:z.length=1):((l.map cI).head?.getD z).length=1:=by cases l<;>simp [cI,a]
theorem VY (t:Types)(g:Graph)(d:Dr24):g.h.length<=(uB t g d).h.length/\g.i.length<=(uB t g d).i.length:=by
 refine ⟨by simp only [uB,GX];omega,by simp only [uB,US,aH];omega⟩
theorem Un (t:Types)(g:Graph)(d:Dr24):(uB t g d).h.length<=g.h.length+2/\(uB t g d).i.length<=g.i.length+2:=by
 refine ⟨?_,?_⟩
 .simp only [uB,GX];have:=SB ((sG t).length=0) d.h.length;omega
 .exact dH (SL _ _ _ _ _) (Nat.add_le_add_left (SB _ _) _)
theorem Wz {P:Program}{f:FuncId}{args args':UN}{r:D}(i:args.map Vx=args')(h:Pure P f args' r):Pure P f args r:=by
 subst i;refine ⟨h.1,λM w a k b=>h.2 M w a k ⟨by simpa using b.len,λj u d g c=>?_⟩⟩;rw [aM,bV] at c;obtain ⟨y,e,rfl⟩:=c;exact ML (b.Z j u y g e)
theorem HP (t:Types)(x:t.a8)(d:Dr24):Pua 14 [t.d,.agg d.c] (Ex t d).d:=by
 have v:=Lw t d.left;have w:=Lu (kC t d.left).j d.q;have j:=DD (kC t d.left).j (BG (kC t d.left).j d.q);have b:Ex t d=if d.plain=true then C4 (Ej t d) else Ej t d:=rfl
 unfold Ej J1 PE Px Au at b;obtain ⟨L,N⟩:=gA (kC t d.left);rw [N] at v w j b;obtain ⟨K,O⟩:=gA (BG L.j d.q);rw [O] at w j b;obtain ⟨l,o⟩:∃ g,bZ L.j K=g:=⟨_,rfl⟩;rw [o] at j b;have C:=Un t l d;have D:=VY t l d;obtain ⟨e,J⟩:∃ g,uB t l d=g:=⟨_,rfl⟩;rw [J] at C D b;have i:=Hw e.h.length d.aG;have f:=Hw e.i.length d.aG;obtain ⟨p,I⟩:=gA (Ac e.h.length d.aG);obtain ⟨q,H⟩:=gA (Ac e.i.length d.aG);rw [I] at i b;rw [H] at f b;have z:=Vh e p q;obtain ⟨y,n⟩:∃ g,Oo e p q=g:=⟨_,rfl⟩;rw [n] at z b;obtain ⟨R,m⟩:∃ s,CI t y.h L.vars d.l=s:=⟨_,rfl⟩;obtain ⟨P,u⟩:∃ c,EK t L d.aY=c:=⟨_,rfl⟩;rw [m,u] at b;have B:=i.1;have A:=f.1;have F:=X1 p;have E:=X1 q;have G:=Cond.A P;refine Tz.pK ⟨λt=>t==4||t==5||t==6||t==7||t==8||t==10,λr=>match r with|2=>[(0,9),(1,9),(2,9),(3,9),(4,9),(5,9),(6,9),(7,9)]|_=>[]⟩ func14 rfl (λQ M=>?_);have Y:=xa4 @Dr24.c.eq_1 F E B A G;refine wv (h:=aB ((by have a:=Q3 t x d.left;rw [N] at a;exact a)) wl ?_);refine wv (h:=aI ((by have a:=Q9 L.j aD aD v.1 d.q;rw [O] at a;exact a)) wl ?_);refine wv (h:=aB ((by have a:=v6 L.j K aD aD;rw [o] at a;exact a)) wl ?_);refine wv (h:=aB ((by have a:=Oz t x l aD aD d;rw [J] at a;exact a)) wl ?_);refine wp (h:=aI ((by have a:=By e.h.length aD d.aG;rw [I] at a;exact a)) wl ?_);refine wp (h:=aI ((by have a:=By e.i.length aD d.aG;rw [H] at a;exact a)) wl ?_);refine wp (h:=aB ((by have a:=Kd e aD aD p q i f;rw [n] at a;exact a)) wl ?_);refine wp (h:=aB ((by have a:=Ov t x y L.vars aD d.l;rw [m] at a;exact a)) wl ?_);refine wp (h:=aB ((by have a:=MB t x L aD aD d.aY;rw [u] at a;exact a)) wl ?_);refine i7 (λk=>?_) λk=>?_
 .refine wv (h:=aB (Wz (by simp [go_sem,Rule.d,Rule.c,dLI]) (Oy ⟨⟨#[114]⟩,L,⟨y,R,L.vars,[]⟩,K,⟨p.take l.h.length,q.take l.i.length⟩,d.inj,P⟩ (by simp only;omega) (by simp only;omega) (by simp only;omega) (by simp only [c8];omega))) wl ?_);have Y:=wa Y k;exact wv (h:=M _ _ wy)
 .have Y:=wa Y k;exact wv (h:=M _ _ wy)
def gL (im keep:W3):W3:=((List.range im.length).filter λ(i:Nat)=>!mem keep i).map λi=>im[i]?.getD 0
def xQ (g:Graph)(me gone:W3)(k:Nat):Bool:=!mem me k&&(mem gone (g.i[k]?.getD b8).w||mem gone (g.i[k]?.getD b8).M)
def vP (g:Graph)(me gone:W3):W3:=((List.range g.i.length).filter (xQ g me gone)).map λ(b:Nat)=>(b:Int)
def sP (im keep:W3)(i k:Nat):Bool:=decide (im[i]?.getD 0=im[k]?.getD 0)&&(!mem keep i||!mem keep k)
def lW (im keep:W3)(i j:Nat):List (Nat × Nat):=((List.range j).filter λb=>sP im keep i (i+1+b)).map λb=>(i,i+1+b)
def EO (im keep:W3)(n:Nat):List (Nat × Nat):=(List.range n).flatMap λi=>lW im keep i (im.length - (i+1))
def nU (im keep:W3):List (Nat × Nat):=EO im keep im.length
def cPr (p:Nat × Nat):UN:=[dI p.1,dI p.2]
@[go_sem] theorem Zh (p:Nat × Nat):D.L (cPr p)=true:=rfl
@[go_sem] theorem aeV (l:List (Nat × Nat)):D.O (l.map cPr)=true:=dN _ Zh l
theorem PP (a keep:W3)(i j:Nat):lW a keep i (j+1)=lW a keep i j++(if sP a keep i (i+1+j)=true then [(i,i+1+j)] else []):=by
 unfold lW;rw [bS,jA,List.map_append];grind
theorem EN (a keep:W3)(n:Nat):EO a keep (n+1)=EO a keep n++lW a keep n (a.length - (n+1)):=by
 unfold EO;rw [bS,List.flatMap_append];simp
theorem Cl (a keep:W3)(i j:Nat):(lW a keep i j).length<=j:=by
 unfold lW;rw [aT];exact dH (iT _ _) dB
theorem xN (im keep:W3):∀ n,(EO im keep n).length<=n * im.length
 | 0=>by simp [EO]
 | n+1=>by
  have h1:=xN im keep n;have h2:=Cl im keep n (im.length - (n+1));rw [EN,aH,Nat.add_mul];omega
theorem q8 (a keep:W3){i:Nat}(h:i<a.length):((List.range (i+1)).filter λ(i:Nat)=>!mem keep i).map (λi=>a[i]?.getD 0)=((List.range i).filter λ(i:Nat)=>!mem keep i).map (λi=>a[i]?.getD 0)++(if (!mem keep i)=true then [a[i]] else []):=by
 rw [bS,jA,List.map_append];grind
theorem q9 {a keep:W3}{x:Int}:x∈gL a keep↔∃ i:Nat,i<a.length/\mem keep i=false/\a[i]?=some x:=by
 unfold gL;grind
def compG (l g:Graph)(keep m:Part):Int:=if eD l g m≠0 then eD l g m else subF l keep
def oG (l g:Graph)(keep m:Part):Int :=
 if compG l g keep m≠0 then compG l g keep m
 else if 0<(nU m.h keep.h).length+(nU m.i keep.i).length then 15
 else if 0<(vP g m.i (gL m.h keep.h)).length then 14 else 0
def uE (l g:Graph)(keep m:Part):Part:=if oG l g keep m=0 then ⟨bP (gL m.h keep.h) g.h.length,bP (gL m.i keep.i) g.i.length⟩ else ⟨[],[]⟩
theorem qU (l:W3)(v:Int):Pua 326 [dLI l,dI v] (.bool (mem l v)):=by
 refine Tz.p0 func326 rfl λQ m Y=>?_;refine wv (h:=aY (λi e H=>(e 0=dLI l/\e 1=dI v/\e 5=dI i)/\(i<=l.length)/\(∀ j,j<i->l[j]?≠some v)) (λi=>l.length - i) 0 ⟨wg,wi,(by intro j k;omega)⟩ λu f i e H d=>?_);obtain ⟨p,s,a⟩:=d;have Y:=wa Y p;refine wv (h:=?_);repeat first|intro _|refine ⟨t,?_⟩
 refine wq (λb=>?_) λb=>?_
 .have Y:=wa Y b;refine wv (h:=?_);refine wq (λg=>?_) λg=>?_
  .refine wv (h:=?_);have c:mem l v=true:=(mem_iff l v).2 (g ▸ aC b);exact m _ _ (by simp [go_sem,c])
  .exact wo (h:=wx f (i+1) ⟨wg,wj,(kP a (by rw [aA b];simpa using g))⟩)
 .refine wv (h:=?_);have c:mem l v=false:=by rw [bQ];intro h;obtain ⟨j,k,o⟩:=aQ ((mem_iff l v).1 h);exact a j aD (by rw [aA k,o])
  exact m _ _ (by simp [go_sem,c])
theorem HW (l:W3)(n:Nat)(v:n<=1000000):Pua 277 [dI n,dLI l] (dLI (bP l n)):=by
 refine Tz.pK ⟨λt=>t==5,λ_=>[]⟩ func277 rfl (λQ r=>?_);have Y:=trivial;refine wv (h:=aY (λi e H=>∃ a:W3,(e 1=dLI l/\e 0=dI n/\e 5=.own 0 a.length/\e 6=dI i)/\(H.get 0=some ⟨3,1,a.map cI,false⟩)/\(0<H.next)/\(i<=n)/\(a.length<=i)/\(a=((List.range i).filter λ(b:Nat)=>!mem l b).map (λ(b:Nat)=>(b:Int)))) (λi=>n - i) 0 ⟨([]),wg,wn,wn,wi,dB,(by rfl)⟩ λz f i e H k=>?_);obtain ⟨a,s,g,d,x,w,j⟩:=k;have Y:=xa2 Y s g (bL d);refine dK (λp=>?_) λp=>?_
 .have Y:=wa Y p;refine wo (h:=aB (qU l i) wl ?_);refine d8 (λm=>?_) λm=>?_
  .have Y:=wa Y m;exact wo (h:=wx f (i+1) ⟨(a++(if (!mem l i)=true then [(i:Int)] else [])),wg,wn,wn,wj,(by rw [aH];split<;>simp<;>omega),(by rw [b7,<- j])⟩)
  .have Y:=wa Y m;exact wo (h:=wx f (i+1) ⟨(a++(if (!mem l i)=true then [(i:Int)] else [])),wg,wn,wn,wj,(by rw [aH];split<;>simp<;>omega),(by rw [b7,<- j])⟩)
 .exact wv (h:=r _ _ (by simp [go_sem,Y,bP];rw [j,(aD:i=n)];simp))
theorem BW (a keep:W3)(v:a.length<=1000000):Pua 278 [dLI a,dLI keep] (dLI (gL a keep)):=by
 refine Tz.pK ⟨λt=>t==5,λ_=>[]⟩ func278 rfl (λQ r=>?_);have Y:=trivial;refine wv (h:=aY (λi e H=>∃ c:W3,(e 0=dLI a/\e 1=dLI keep/\e 5=.own 0 c.length/\e 6=dI i)/\(H.get 0=some ⟨3,1,c.map cI,false⟩)/\(0<H.next)/\(i<=a.length)/\(c.length<=i)/\(c=((List.range i).filter λ(b:Nat)=>!mem keep b).map (λi=>a[i]?.getD 0))) (λi=>a.length - i) 0 ⟨([]),wg,wn,wn,wi,dB,(by rfl)⟩ λz g i e H m=>?_);obtain ⟨c,s,k,f,x,w,l⟩:=m;have Y:=xa2 Y s k (bL f);refine d8 (λj=>?_) λj=>?_
 .have Y:=xa1 Y j (aA j);refine wo (h:=aB (qU keep i) wl ?_);refine d8 (λn=>?_) λn=>?_
  .have Y:=wa Y n;exact wo (h:=wx g (i+1) ⟨(c++(if (!mem keep i)=true then [a[i]] else [])),wg,wn,wn,wj,(by rw [aH];split<;>simp<;>omega),(by rw [q8 _ _ j,<- l])⟩)
  .have Y:=wa Y n;exact wo (h:=wx g (i+1) ⟨(c++(if (!mem keep i)=true then [a[i]] else [])),wg,wn,wn,wj,(by rw [aH];split<;>simp<;>omega),(by rw [q8 _ _ j,<- l])⟩)
 .refine wv (h:=?_);have q:gL a keep=c:=by rw [l,(aD:i=a.length)];rfl
  exact r _ _ (by simp [go_sem,Y,q])
theorem PS {g:Graph}{me gone:W3}{k:Nat}(h:k<g.i.length):xQ g me gone k=(!mem me k&&(mem gone g.i[k].w||mem gone g.i[k].M)):=by
 unfold xQ;rw [aA h];rfl
theorem HX (l g:Graph)(keep m:Part)(y:m.h.length<=1000000)(p:g.i.length<=1000000):Pua 276 [l.d,g.d,keep.d,m.d] (dLI (vP g m.i (gL m.h keep.h))):=by
 obtain ⟨f,u⟩:=gA (gL m.h keep.h);refine Tz.pK ⟨λt=>t==9,λ_=>[]⟩ func276 rfl (λQ A=>?_);have Y:=u;refine wv (h:=aB (BW m.h keep.h y) wl ?_);refine wv (h:=aY (λk e H=>∃ a:W3,(e 5=.adr g.c/\e 7=.adr m.c/\e 10=dLI f/\e 9=.own 0 a.length/\e 11=dI k)/\(H.get 0=some ⟨3,1,a.map cI,false⟩)/\(0<H.next)/\(k<=g.i.length)/\(a.length<=k)/\(a=((List.range k).filter (xQ g m.i f)).map (λ(b:Nat)=>(b:Int)))) (λk=>g.i.length - k) 0 ⟨([]),wg,wn,wn,wi,dB,(by rfl)⟩ λJ n k e H s=>?_);obtain ⟨a,D,o,j,G,F,r⟩:=s;have Y:=xa2 Y D o (bL j);refine d8 (λq=>?_) λq=>?_
 .have hdb:=PS (me:=m.i) (gone:=f) q;have C:=qU f g.i[k].w;have B:=qU f g.i[k].M;have Y:=xa2 Y q (aA q) hdb;refine wo (h:=aB (qU m.i k) wl ?_);refine wo (h:=aK (λp=>C) (λp=>wl) ?_);refine wo (h:=aK (λp=>B) (λp=>wl) ?_);refine d8 (λv=>?_) λv=>?_
  .have Y:=wa Y v;exact wo (h:=wx n (k+1) ⟨(a++(if xQ g m.i f k=true then [(k:Int)] else [])),wg,wn,wn,wj,(by rw [aH];split<;>simp<;>omega),(by rw [b7,<- r])⟩)
  .have Y:=wa Y v;exact wo (h:=wx n (k+1) ⟨(a++(if xQ g m.i f k=true then [(k:Int)] else [])),wg,wn,wn,wj,(by rw [aH];split<;>simp<;>omega),(by rw [b7,<- r])⟩)
 .refine wv (h:=?_);have z:vP g m.i f=a:=by rw [r,(aD:k=g.i.length)];rfl
  exact A _ _ (by simp [go_sem,Y,z])
theorem OO (l g:Graph)(keep m:Part)(c:keep.h.length<=1000000):Pua 274 [l.d,g.d,keep.d,m.d] (dI (compG l g keep m)):=by
 refine Tz.p0 func274 rfl λQ b Y=>?_;refine wv (h:=aB (r8 l g m) wl ?_);refine dK (λa=>?_) λa=>?_
 .have Y:=xa1 Y a @compG.eq_1;exact wv (h:=b _ _ wy)
 .refine wv (h:=aB (Ak l keep) wl ?_);have Y:=xa1 Y a @compG.eq_1;exact wv (h:=b _ _ wy)
theorem V7 {a keep:W3}{i k:Nat}(c:i<a.length)(b:k<a.length):sP a keep i k=(decide (a[i]=a[k])&&(!mem keep i||!mem keep k)):=by
 unfold sP;rw [aA c,aA b];rfl
theorem tK (a keep:W3){i k:Nat}(h:i+1<=k):lW a keep i (k+1 - (i+1))=lW a keep i (k - (i+1))++(if sP a keep i k=true then [(i,k)] else []):=by
 rw [show k+1 - (i+1)=(k - (i+1))+1 by omega,PP,show i+1+(k - (i+1))=k by omega]
theorem wY (a keep:W3)(A:a.length<=1000):Pua 275 [dLI a,dLI keep] (.list ((nU a keep).map cPr)):=by
 refine Tz.pK ⟨λt=>t==5,λ_=>[]⟩ func275 rfl (λQ G=>?_);have Y:=trivial;refine wv (h:=aY (λi e H=>∃ d:List (Nat × Nat),(e 0=dLI a/\e 1=dLI keep/\e 5=.own 0 d.length/\e 6=dI i)/\(H.get 0=some ⟨355,2,d.map cPr,false⟩)/\(0<H.next)/\(i<=a.length)/\(d=EO a keep i)) (λi=>a.length - i) 0 ⟨([]),wg,wn,wn,wi,(by rfl)⟩ λP y i e H w=>?_);obtain ⟨d,K,o,l,L,s⟩:=w;have Y:=xa2 Y K o (bL l);refine d8 (λg=>?_) λg=>?_
 .have Y:=xa1 Y g (aA g);refine wo (h:=aY (λk e H=>∃ b:List (Nat × Nat),(e 0=dLI a/\e 1=dLI keep/\e 5=.own 0 b.length/\e 6=dI i/\e 7=dI k)/\(H.get 0=some ⟨355,2,b.map cPr,false⟩)/\(0<H.next)/\(i+1<=k)/\(k<=a.length)/\(b=d++lW a keep i (k - (i+1)))/\(b.length<=1000000)) (λk=>a.length - k) (i+1) ⟨d,wg,wn,wn,wi,wi,(by simp [lW]),(by have:=xN a keep i;have:i * a.length<=1000 * 1000:=kA aD A;rw [s];omega)⟩ λO m k e H v=>?_);obtain ⟨b,J,n,j,E,D,r,C⟩:=v;have Y:=xa2 Y J n (bL j);refine d8 (λu=>?_) λu=>?_
  .have hd:=V7 (keep:=keep) g u;have f:(b++(if sP a keep i k=true then [(i,k)] else [])).length<=1000000:=by
    have I:b++(if sP a keep i k=true then [(i,k)] else [])=EO a keep i++lW a keep i (k+1 - (i+1)):=by rw [tK _ _ aD,<- List.append_assoc,r,s]
    rw [I,aH];have N:=xN a keep i;have M:=Cl a keep i (k+1 - (i+1));have g:i * a.length+a.length<=1000 * 1000:=by
     have:=kA (aD:i+1<=1000) A;rw [Nat.add_mul] at this;omega
    omega
   have Y:=xa3 Y g (aA g) u (aA u);refine wo (h:=dO (λx=>qU keep i) (λx=>wl) ?_);refine wo (h:=dO (λx=>qU keep k) (λx=>wl) ?_);refine d8 (λB=>?_) λB=>?_
   .have hdt:sP a keep i k=true:=by rw [hd];simpa using B
    have Y:=xa1 Y hdt @cPr.eq_1;exact wo (h:=wx m (k+1) ⟨(b++(if sP a keep i k=true then [(i,k)] else [])),wg,wn,wn,wj,wj,(by rw [tK _ _ aD,<- List.append_assoc,<- r]),(f)⟩)
   .have hdf:sP a keep i k=false:=by rw [hd,bQ];intro F;simp at F;simp_all
    have Y:=wa Y hdf;exact wo (h:=wx m (k+1) ⟨(b++(if sP a keep i k=true then [(i,k)] else [])),wg,wn,wn,wj,wj,(by rw [tK _ _ aD,<- List.append_assoc,<- r]),(f)⟩)
  .have hJ:k=a.length:=aD;subst hJ;subst r;exact wo (h:=wx y (i+1) ⟨(d++lW a keep i (a.length - (i+1))),wg,wn,wn,wj,(by rw [EN,<- s])⟩)
 .have hX:nU a keep=d:=by rw [s,(aD:i=a.length)];rfl
  exact wv (h:=G _ _ (by simp [go_sem,Y,hX]))
theorem DH {a keep:W3}(h:a.length<=1000):(nU a keep).length<=1000000:=by
 have c:=xN a keep a.length;have b:a.length * a.length<=1000 * 1000:=kA h h;unfold nU;omega
theorem Vj (l g:Graph)(keep m:Part)(p:keep.h.length<=1000000)(e:m.h.length<=1000)(c:m.i.length<=1000)(k:g.h.length<=1000000)(f:g.i.length<=1000000):Pua 195 [l.d,g.d,keep.d,m.d] (.tup [(uE l g keep m).d,dI (oG l g keep m)]):=by
 have r:=DH (keep:=keep.h) e;have q:=DH (keep:=keep.i) c;refine Tz.pK ⟨λt=>t==8,λ_=>[]⟩ func195 rfl (λQ i=>?_);have Y:=trivial;refine wv (h:=aB (OO l g keep m p) wl ?_);refine dK (λj=>?_) λj=>?_
 .have a:oG l g keep m=compG l g keep m:=if_pos j;have b:uE l g keep m=⟨[],[]⟩:=if_neg (by rw [a];exact j);exact wv (h:=i _ _ (by simp [go_sem,a,b]))
 .have a:oG l g keep m=if 0<(nU m.h keep.h).length+(nU m.i keep.i).length then 15 else if 0<(vP g m.i (gL m.h keep.h)).length then 14 else 0:=if_neg (by rw [j];simp)
  refine wo (h:=aI (wY m.h keep.h e) wl ?_);refine wo (h:=aI (wY m.i keep.i c) wl ?_);refine d8 (λo=>?_) λo=>?_
  .rw [if_pos aD] at a;have b:uE l g keep m=⟨[],[]⟩:=if_neg (by rw [a];simp);exact wv (h:=i _ _ (by simp [go_sem,a,b]))
  .rw [if_neg (by first|omega|simp [o])] at a;refine wo (h:=aB (HX l g keep m aD f) wl ?_);refine d8 (λn=>?_) λn=>?_
   .rw [if_pos aD] at a;have b:uE l g keep m=⟨[],[]⟩:=if_neg (by rw [a];simp);exact wv (h:=i _ _ (by simp [go_sem,a,b]))
   .rw [if_neg (by first|omega|simp [n])] at a;have b:uE l g keep m=⟨bP (gL m.h keep.h) g.h.length,bP (gL m.i keep.i) g.i.length⟩:=if_pos a;refine wo (h:=aI (BW m.h keep.h aD) wl ?_);refine wo (h:=aI (HW (gL m.h keep.h) g.h.length k) wl ?_);refine wo (h:=aI (BW m.i keep.i aD) wl ?_);refine wo (h:=aI (HW (gL m.i keep.i) g.i.length f) wl ?_);exact wo (h:=i _ _ (by simp [go_sem,a,b]))
theorem xT (a keep:W3)(A:a.length<=1000):Pua 251 [dLI a,dLI keep] (.list ((nU a keep).map cPr)):=by
 refine Tz.pK ⟨λt=>t==5,λ_=>[]⟩ func251 rfl (λQ G=>?_);have Y:=trivial;refine wo (h:=aY (λi e H=>∃ d:List (Nat × Nat),(e 0=dLI a/\e 1=dLI keep/\e 9=dI a.length/\e 5=.own 0 d.length/\e 10=dI i)/\(H.get 0=some ⟨355,2,d.map cPr,false⟩)/\(0<H.next)/\(i<=a.length)/\(d=EO a keep i)) (λi=>a.length - i) 0 ⟨([]),wg,wn,wn,wi,(by rfl)⟩ λP y i e H w=>?_);obtain ⟨d,K,o,l,L,s⟩:=w;have Y:=xa2 Y K o (bL l);refine dK (λg=>?_) λg=>?_
 .have Y:=xa1 Y g (aA g);refine wo (h:=aY (λk e H=>∃ b:List (Nat × Nat),(e 0=dLI a/\e 1=dLI keep/\e 9=dI a.length/\e 5=.own 0 b.length/\e 6=dI i/\e 10=dI i/\e 7=dI k)/\(H.get 0=some ⟨355,2,b.map cPr,false⟩)/\(0<H.next)/\(i+1<=k)/\(k<=a.length)/\(b=d++lW a keep i (k - (i+1)))/\(b.length<=1000000)) (λk=>a.length - k) (i+1) ⟨d,wg,wn,wn,wi,wi,(by simp [lW]),(by have:=xN a keep i;have:i * a.length<=1000 * 1000:=kA aD A;rw [s];omega)⟩ λO m k e H v=>?_);obtain ⟨b,J,n,j,E,D,r,C⟩:=v;have Y:=xa2 Y J n (bL j);refine d8 (λu=>?_) λu=>?_
  .have hd:=V7 (keep:=keep) g u;have f:(b++(if sP a keep i k=true then [(i,k)] else [])).length<=1000000:=by
    have I:b++(if sP a keep i k=true then [(i,k)] else [])=EO a keep i++lW a keep i (k+1 - (i+1)):=by rw [tK _ _ aD,<- List.append_assoc,r,s]
    rw [I,aH];have N:=xN a keep i;have M:=Cl a keep i (k+1 - (i+1));have g:i * a.length+a.length<=1000 * 1000:=by
     have:=kA (aD:i+1<=1000) A;rw [Nat.add_mul] at this;omega
    omega
   have Y:=xa3 Y g (aA g) u (aA u);refine wo (h:=dO (λx=>fU keep i) (λx=>wl) ?_);refine wo (h:=dO (λx=>fU keep k) (λx=>wl) ?_);refine d8 (λB=>?_) λB=>?_
   .have hdt:sP a keep i k=true:=by rw [hd];simpa using B
    have Y:=xa1 Y hdt @cPr.eq_1;exact wo (h:=wx m (k+1) ⟨(b++(if sP a keep i k=true then [(i,k)] else [])),wg,wn,wn,wj,wj,(by rw [tK _ _ aD,<- List.append_assoc,<- r]),(f)⟩)
   .have hdf:sP a keep i k=false:=by rw [hd,bQ];intro F;simp at F;simp_all
    have Y:=wa Y hdf;exact wo (h:=wx m (k+1) ⟨(b++(if sP a keep i k=true then [(i,k)] else [])),wg,wn,wn,wj,wj,(by rw [tK _ _ aD,<- List.append_assoc,<- r]),(f)⟩)
  .have hJ:k=a.length:=aD;subst hJ;subst r;exact wo (h:=wx y (i+1) ⟨(d++lW a keep i (a.length - (i+1))),wg,wn,wn,wj,(by rw [EN,<- s])⟩)
 .have hX:nU a keep=d:=by rw [s,(aD:i=a.length)];rfl
  exact wv (h:=G _ _ (by simp [go_sem,Y,hX]))
def vD (n:Nat)(l:W3):List Bool:=l.foldl (λacc x=>acc.set x.toNat true) (List.replicate n false)
theorem Im (n:Nat)(l:W3)(x:Int):vD n (l++[x])=(vD n l).set x.toNat true:=by unfold vD;rw [j4];rfl
theorem Eu (n:Nat)(l:W3):(vD n l).length=n:=by
 unfold vD;have:∀ (l:W3) (a:List Bool),a.length=n->(l.foldl (λb x=>b.set x.toNat true) a).length=n:=by
  intro l;induction l with
  | nil=>intro a h;exact h
  | cons x l ih=>intro a h;exact ih _ (eQ h)
 grind
theorem Ua (n:Nat):∀ (l:W3),(∀ x∈l,0<=x/\x<n)->∀ i:Nat,i<n->(vD n l)[i]?=some (mem l i):=by
 have:∀ (l:W3) (a:List Bool),a.length=n->(∀ x∈l,0<=x/\x<n)->∀ i:Nat,i<n->(l.foldl (λf x=>f.set x.toNat true) a)[i]?=some (a[i]?.getD false||mem l i):=by
  intro l;induction l with
  | nil=>intro a h _ i d;rw [List.foldl_nil,aA aD,yP];simp
  | cons x l ih =>
   intro a h e i d;have m:=e x dB;rw [rT,ih _ (eQ h) (λy j=>e y (by simp [j])) i d];congr 1;have k:mem (x :: l) (i:Int)=(decide ((i:Int)=x)||mem l i):=by
    rw [aS,mem_iff,cZ,mem_iff,decide_eq_true_eq,aV]
   rw [k];by_cases g:x.toNat=i
   .subst g;rw [List.getElem?_set_self aD];grind
   .rw [List.getElem?_set_ne g];have:¬ ((i:Int)=x):=aD;simp [this]
 intro l e i d;unfold vD;rw [this l _ dB e i d];simp [d]
theorem zI (n:Nat)(Z:n<=1000000)(d keep:W3)(S:d.length<=1000000)(A:∀ x∈d,0<=x/\x<n):Pua 166 [dI n,dLI d,dLI keep] (dLI (bP (gL d keep) n)):=by
 refine Tz.pK ⟨λt=>t==14||t==10,λ_=>[]⟩ func166 rfl (λQ V=>?_);have Y:=trivial;refine wo (h:=aY (λi e H=>∃ a:W3,(e 0=dI n/\e 2=dLI keep/\e 15=dLI d/\e 16=dI d.length/\e 7=.own 0 n/\e 17=dI i)/\(H.get 0=some ⟨4,1,(vD n a).map cB,false⟩)/\(0<H.next)/\(i<=d.length)/\((vD n a).length=n)/\(a=((List.range i).filter λ(b:Nat)=>!mem keep b).map (λi=>d[i]?.getD 0))) (λi=>d.length - i) 0 ⟨([]),wg,(by simp [go_sem,vD,cB]),wn,wi,(Eu _ _),(by rfl)⟩ λI0 D i e H K=>?_);obtain ⟨a,X,F,y,hi,L,I⟩:=K;have Y:=xa2 Y X F (bL y);refine dK (λu=>?_) λu=>?_
 .have hb:=A _ (aC u);have N:d[i].toNat<(vD n a).length:=aD;have Y:=xa2 Y u (aA u) (aA N);refine wo (h:=aB (fU keep i) wl ?_);refine d8 (λO=>?_) λO=>?_
  .have Y:=wa Y O;exact wo (h:=wx D (i+1) ⟨(a++(if (!mem keep i)=true then [d[i]] else [])),wg,(by simp [go_sem,Y,Im,cB]),wn,wj,(Eu _ _),(by rw [q8 _ _ u,<- I])⟩)
  .have Y:=wa Y O;exact wo (h:=wx D (i+1) ⟨(a++(if (!mem keep i)=true then [d[i]] else [])),wg,(by simp [go_sem,Y]),wn,wj,(Eu _ _),(by rw [q8 _ _ u,<- I])⟩)
 .have B:gL d keep=a:=by rw [I,(aD:i=d.length)];rfl
  have M:∀ x∈a,0<=x/\x<n:=λx z=>by
   rw [<- B,q9] at z;obtain ⟨j,_,_,h⟩:=z;exact A x (aL h)
  refine wo (h:=aY (λk e H=>∃ m:W3,∃ c:Nat,(e 0=dI n/\e 2=dLI keep/\e 15=dLI d/\e 16=dI d.length/\e 30=.own 0 n/\e 31=dI n/\e 32=dI k/\e 10=.own c m.length)/\(H.get 0=some ⟨4,1,(vD n a).map cB,false⟩)/\(0<H.next)/\(H.get c=some ⟨3,1,m.map cI,false⟩)/\(c<H.next)/\(c≠0)/\(k<=n)/\(m.length<=k)/\(m=((List.range k).filter λ(b:Nat)=>!mem a b).map (λ(b:Nat)=>(b:Int)))) (λk=>n - k) 0 ⟨([]),H.next,wg,wn,wn,wn,wn,aD,wi,dB,(by rfl)⟩ λI2 C k e H J=>?_);obtain ⟨m,c,W,E,w,l,g,U,hk,hl,o⟩:=J;have P:=cY (aD:0≠c);have Y:=xa6 Y W E (bL w) l (bL g) L P;refine dK (λq=>?_) λq=>?_
  .have hkm:k<(vD n a).length:=aD;have T:(vD n a)[k]=mem a k:=by have:=Ua n a M k q;rw [aA hkm] at this;exact Option.some.inj this
   have Y:=xa2 Y q (aA hkm) T;refine d8 (λp=>?_) λp=>?_
   .have Y:=wa Y p;exact wo (h:=wx C (k+1) ⟨(m++(if (!mem a k)=true then [(k:Int)] else [])),c,wg,wn,wn,wn,wn,aD,wj,(by rw [aH];split<;>simp<;>omega),(by rw [b7,<- o])⟩)
   .have Y:=wa Y p;exact wo (h:=wx C (k+1) ⟨(m++(if (!mem a k)=true then [(k:Int)] else [])),c,wg,wn,wn,wn,wn,aD,wj,(by rw [aH];split<;>simp<;>omega),(by rw [b7,<- o])⟩)
  .exact wv (h:=V _ _ (by simp [go_sem,Y,B,bP];rw [o,(aD:k=n)];simp))
def gluC (l g:Graph)(keep m:Part):UN:=[dLI l.h,.list (l.i.map Edge.c),dLI g.h,.list (g.i.map Edge.c),dLI keep.h,dLI keep.i,dLI m.h,dLI m.i]
theorem ER (l g:Graph)(keep m:Part)(c:keep.h.length<=1000000):Pua 163 [.agg (gluC l g keep m)] (dI (compG l g keep m)):=by
 refine Tz.p0 func163 rfl λQ b _=>?_;have Y:=@gluC.eq_1;refine wv (h:=aB (p5 l g m) wl ?_);refine dK (λa=>?_) λa=>?_
 .have Y:=xa1 Y a @compG.eq_1;exact wv (h:=b _ _ wy)
 .refine wv (h:=aB (z7 l keep c) wl ?_);have Y:=xa1 Y a @compG.eq_1;exact wv (h:=b _ _ wy)
theorem Cn (l g:Graph)(keep m:Part)(x:m.h.length<=1000000):Pua 252 [.agg (gluC l g keep m)] (dLI (gL m.h keep.h)):=by
 refine Tz.pK ⟨λt=>t==3,λ_=>[]⟩ func252 rfl (λQ u=>?_);have Y:=@gluC.eq_1;refine wo (h:=aY (λi e H=>∃ a:W3,(e 1=.adr (gluC l g keep m)/\e 8=dLI m.h/\e 9=dI m.h.length/\e 3=.own 0 a.length/\e 10=dI i)/\(H.get 0=some ⟨3,1,a.map cI,false⟩)/\(0<H.next)/\(i<=m.h.length)/\(a.length<=i)/\(a=((List.range i).filter λ(b:Nat)=>!mem keep.h b).map (λi=>m.h[i]?.getD 0))) (λi=>m.h.length - i) 0 ⟨([]),wg,wn,wn,wi,dB,(by rfl)⟩ λB f i e H o=>?_);obtain ⟨a,v,k,d,z,y,n⟩:=o;have Y:=xa2 Y v k (bL d);refine dK (λj=>?_) λj=>?_
 .have Y:=xa1 Y j (aA j);refine wo (h:=aB (fU keep.h i) wl ?_);refine d8 (λp=>?_) λp=>?_
  .have Y:=wa Y p;exact wo (h:=wx f (i+1) ⟨(a++(if (!mem keep.h i)=true then [m.h[i]] else [])),wg,wn,wn,wj,(by rw [aH];split<;>simp<;>omega),(by rw [q8 _ _ j,<- n])⟩)
  .have Y:=wa Y p;exact wo (h:=wx f (i+1) ⟨(a++(if (!mem keep.h i)=true then [m.h[i]] else [])),wg,wn,wn,wj,(by rw [aH];split<;>simp<;>omega),(by rw [q8 _ _ j,<- n])⟩)
 .refine wv (h:=?_);have s:gL m.h keep.h=a:=by rw [n,(aD:i=m.h.length)];rfl
  exact u _ _ (by simp [go_sem,Y,s])
theorem Bj (l g:Graph)(keep m:Part)(x:m.h.length<=1000000)(o:g.i.length<=1000000):Pua 165 [.agg (gluC l g keep m)] (dLI (vP g m.i (gL m.h keep.h))):=by
 obtain ⟨d,s⟩:=gA (gL m.h keep.h);refine Tz.pK ⟨λt=>t==6||t==4,λ_=>[]⟩ func165 rfl (λQ z=>?_);have Y:=wa s @gluC.eq_1;refine wv (h:=aB ((by have:=Cn l g keep m x;simp only [gluC] at this;exact this)) wl ?_);refine wo (h:=aY (λk e H=>∃ a:W3,(e 1=.adr (gluC l g keep m)/\e 3=dLI d/\e 11=.list (g.i.map Edge.c)/\e 12=dI g.i.length/\e 4=.own 0 a.length/\e 13=dI k)/\(H.get 0=some ⟨3,1,a.map cI,false⟩)/\(0<H.next)/\(k<=g.i.length)/\(a.length<=k)/\(a=((List.range k).filter (xQ g m.i d)).map (λ(b:Nat)=>(b:Int)))) (λk=>g.i.length - k) 0 ⟨([]),wg,wn,wn,wi,dB,(by rfl)⟩ λI j k e H r=>?_);obtain ⟨a,C,n,i,F,E,q⟩:=r;have Y:=xa2 Y C n (bL i);refine dK (λp=>?_) λp=>?_
 .have hdb:=PS (me:=m.i) (gone:=d) p;have B:=fU d g.i[k].w;have A:=fU d g.i[k].M;have Y:=xa3 Y p (aA p) hdb @Edge.c.eq_1;refine wo (h:=aB (fU m.i k) wl ?_);refine wo (h:=aK (λo=>B) (λo=>wl) ?_);refine wo (h:=aK (λo=>A) (λo=>wl) ?_);refine d8 (λu=>?_) λu=>?_
  .have Y:=wa Y u;exact wo (h:=wx j (k+1) ⟨(a++(if xQ g m.i d k=true then [(k:Int)] else [])),wg,wn,wn,wj,(by rw [aH];split<;>simp<;>omega),(by rw [b7,<- q])⟩)
  .have Y:=wa Y u;exact wo (h:=wx j (k+1) ⟨(a++(if xQ g m.i d k=true then [(k:Int)] else [])),wg,wn,wn,wj,(by rw [aH];split<;>simp<;>omega),(by rw [b7,<- q])⟩)
 .refine wv (h:=?_);have y:vP g m.i d=a:=by rw [q,(aD:k=g.i.length)];rfl
  exact z _ _ (by simp [go_sem,Y,y])
theorem zQ (l g:Graph)(keep m:Part)(c:m.h.length<=1000)(b:m.i.length<=1000):Pua 164 [.agg (gluC l g keep m)] (.tup [.list ((nU m.h keep.h).map cPr),.list ((nU m.i keep.i).map cPr)]):=by
 refine Tz.p0 func164 rfl λQ a _=>?_;have Y:=@gluC.eq_1;refine wv (h:=aI (xT m.h keep.h c) wl ?_);refine wv (h:=aI (xT m.i keep.i b) wl ?_);exact wv (h:=a _ _ wy)
theorem tH {a b:Graph}{m:Part}(h:eD a b m=0):(∀ x∈m.h,0<=x/\x<b.h.length)/\∀ x∈m.i,0<=x/\x<b.i.length:=by
 obtain ⟨_,_,j,g⟩:=kZ h;have d:eD a b m=(if bU (kI a b m) 0 a.h.length≠0 then bU (kI a b m) 0 a.h.length else bU (mapEE a b m) 0 a.i.length):=by
  obtain ⟨f,e,_,_⟩:=kZ h;unfold eD;rw [if_neg (by simp [f]),if_neg (by simp [e]),if_neg aD]
 rw [d] at h;split at h
 .rename_i h5;exact absurd h h5
 .rename_i h5;constructor
  .intro x hx;obtain ⟨i,c,rfl⟩:=aQ hx;have:=eI _ _ (aD:bU (kI a b m) 0 a.h.length=0) i aD aD;unfold kI at this;grind
  .intro x hx;obtain ⟨i,c,rfl⟩:=aQ hx;have:=eI _ _ h i aD aD;unfold mapEE at this;grind
theorem Ks (l g:Graph)(keep m:Part)(s:keep.h.length<=1000000)(i:m.h.length<=1000)(f:m.i.length<=1000)(o:g.h.length<=1000000)(k:g.i.length<=1000000):Pua 106 [l.d,g.d,keep.d,m.d] (.tup [(uE l g keep m).d,dI (oG l g keep m)]):=by
 have v:=DH (keep:=keep.h) i;have u:=DH (keep:=keep.i) f;refine Tz.pK ⟨λt=>t==8||t==10,λ_=>[]⟩ func106 rfl (λQ n=>?_);have Y:=trivial;refine wv (h:=aB ((by have:=ER l g keep m s;simp only [gluC] at this;exact this)) wl ?_);refine dK (λe=>?_) λe=>?_
 .have b:oG l g keep m=compG l g keep m:=if_pos e;have c:uE l g keep m=⟨[],[]⟩:=if_neg (by rw [b];exact e);exact wv (h:=n _ _ (by simp [go_sem,b,c]))
 .have b:oG l g keep m=if 0<(nU m.h keep.h).length+(nU m.i keep.i).length then 15 else if 0<(vP g m.i (gL m.h keep.h)).length then 14 else 0:=if_neg (by rw [e];simp)
  have j:(∀ x∈m.h,0<=x/\x<g.h.length)/\∀ x∈m.i,0<=x/\x<g.i.length:=tH (a:=l) (by unfold compG at e;by_cases p:eD l g m=0;exact p;rw [if_pos p] at e;exact e);refine wv (h:=aB ((by have:=zQ l g keep m i f;simp only [gluC] at this;exact this)) wl ?_);refine d8 (λr=>?_) λr=>?_
  .rw [if_pos aD] at b;have c:uE l g keep m=⟨[],[]⟩:=if_neg (by rw [b];simp);exact wv (h:=n _ _ (by simp [go_sem,b,c]))
  .rw [if_neg (by first|omega|simp [r])] at b;refine wo (h:=aB ((by have:=Bj l g keep m aD k;simp only [gluC] at this;exact this)) wl ?_);refine d8 (λq=>?_) λq=>?_
   .rw [if_pos aD] at b;have c:uE l g keep m=⟨[],[]⟩:=if_neg (by rw [b];simp);exact wv (h:=n _ _ (by simp [go_sem,b,c]))
   .rw [if_neg (by first|omega|simp [q])] at b;have c:uE l g keep m=⟨bP (gL m.h keep.h) g.h.length,bP (gL m.i keep.i) g.i.length⟩:=if_pos b;refine wo (h:=aI (zI g.h.length o m.h keep.h aD j.1) wl ?_);refine wo (h:=aI (zI g.i.length k m.i keep.i aD j.2) wl ?_);exact wo (h:=n _ _ (by simp [go_sem,b,c]))
def jZ (s:ByteArray):Bool:=decide (40<(s.size:Int))
def vU (x:Attr):Bool:=jZ x.name||decide (25<(x.ad.length:Int))||x.ad.any jZ
def rR (n:NodeTy):Bool:=jZ n.name||n.r.any vU
def A9 (x:EdgeTy):Bool:=jZ x.name
def i4 (l:List NodeTy):Nat:=(l.map λn=>n.r.length).sum
def xK (t:Types):Bool:=decide ((t.h.length:Int)<=20)&&decide ((t.i.length:Int)<=30)&&decide (i4 t.h<=30)&&!(t.h.any rR)&&!(t.i.any A9)
@[go_sem,simp] theorem X7:i4 []=0:=rfl
theorem Nq (l:List NodeTy){i:Nat}(h:i<l.length):i4 (l.take (i+1))=i4 (l.take i)+l[i].r.length:=by
 unfold i4;rw [aE h,List.map_append,List.sum_append];simp
theorem R0 (l:List NodeTy)(i:Nat):i4 (l.take i)≤i4 l:=by
 have:i4 l=i4 (l.take i)+i4 (l.drop i):=by
  unfold i4
  rw [← List.sum_append,← List.map_append,List.take_append_drop]
 omega
theorem UC {l:List NodeTy}{n:NodeTy}(h:n∈l):n.r.length<=i4 l:=by
 induction l with
 | nil=>cases h
 | cons a l ih =>
  have e:i4 (a :: l)=a.r.length+i4 l:=by simp [i4]
  grind
theorem GY {t:Types}(h:xK t=true):t.ok:=by
 simp [xK] at h;obtain ⟨⟨⟨⟨k,j⟩,i⟩,f⟩,e⟩:=h;refine ⟨λn c=>?_,λx b=>⟨?_⟩,aD,aD⟩
 .have hl:=UC c;have:=f n c;simp [rR,jZ] at this;refine ⟨aD,λx b=>?_,aD⟩;have d:=this.2 x b;simp [vU,jZ] at d;refine ⟨aD,λs g=>?_,aD⟩;grind
 .have:=e x b;simp [A9,jZ] at this;omega
theorem K9 (t:Types)(R:∀ n∈t.h,n.r.length<=1000000000000000):Pua 46 [t.d] (.bool (xK t)):=by
 refine Tz.pK ⟨λt=>t==6,λ_=>[]⟩ func46 rfl (λQ u=>?_);have Y:=trivial;refine d8 (λW=>?_) λW=>?_
 .refine wv (h:=?_);have s:xK t=false:=by simp [xK];omega
  exact u _ _ (by simp [go_sem,s])
 .refine wv (h:=aY (λi e H=>(e 1=.adr t.c/\e 3=dI (i4 (t.h.take i))/\e 4=dI i)/\(i<=t.h.length)/\(i4 (t.h.take i)<=30)/\((t.h.take i).any rR=false)) (λi=>t.h.length - i) 0 ⟨wg,wi,(by simp [i4]),(by rfl)⟩ λI0 J i e H D=>?_);obtain ⟨E0,hi,S,P⟩:=D;have Y:=wa Y E0;refine d8 (λp=>?_) λp=>?_
  .have hst:=Nq t.h p;have T:=R0 t.h (i+1);have hn:=R _ (aC p);have Y:=xa1 Y p hst;refine d8 (λh8=>?_) λh8=>?_
   .refine wv (h:=?_);have s:xK t=false:=by
     rcases h8 with h8|h8
     .simp [xK];omega
     .have:t.h.any rR=true:=bD.2 ⟨_,aC p,by simp [rR,jZ];omega⟩;simp [xK,this]
    exact u _ _ (by simp [go_sem,s])
   .have U:jZ t.h[i].name=false:=by simp [jZ];omega
    refine wv (h:=aY (λk e H=>(e 1=.adr t.c/\e 3=dI (i4 (t.h.take (i+1)))/\e 4=dI i/\e 5=dI k)/\(k<=t.h[i].r.length)/\((t.h[i].r.take k).any vU=false)) (λk=>t.h[i].r.length - k) 0 ⟨wg,wi,(by rfl)⟩ λI2 I k e H C=>?_);obtain ⟨E2,hk,s⟩:=C;have Y:=wa Y E2;refine d8 (λb=>?_) λb=>?_
    .have Y:=wa Y b;refine d8 (λM=>?_) λM=>?_
     .refine wv (h:=?_);have f:vU t.h[i].r[k]=true:=by simp [vU,jZ];omega
      have g:t.h.any rR=true:=bD.2 ⟨_,aC p,by unfold rR;rw [cZ];right;exact bD.2 ⟨_,aC b,f⟩⟩;have a:xK t=false:=by simp [xK,g]
      exact u _ _ (by simp [go_sem,a])
     .have V:jZ t.h[i].r[k].name=false:=by simp [jZ];omega
      refine wv (h:=aY (λm e H=>∃ j:Nat,(e 1=.adr t.c/\e 3=dI (i4 (t.h.take (i+1)))/\e 4=dI i/\e 5=dI k/\e 6=.ptr j 1 0 0/\e 7=dI m)/\(H.get j=some ⟨127,4,[t.h[i].r[k].c],false⟩)/\(j<H.next)/\(m<=t.h[i].r[k].ad.length)/\((t.h[i].r[k].ad.take m).any jZ=false)) (λm=>t.h[i].r[k].ad.length - m) 0 ⟨H.next,wg,wn,wn,wi,(by rfl)⟩ λI4 G m e H B=>?_);obtain ⟨j,E4,w,v,hm,O⟩:=B;have Y:=xa2 Y E4 w (bL v);refine d8 (λo=>?_) λo=>?_
      .have Y:=wa Y o;refine d8 (λL=>?_) λL=>?_
       .refine wv (h:=?_);have f:vU t.h[i].r[k]=true:=by unfold vU;rw [cZ];right;exact bD.2 ⟨_,aC o,by simp [jZ];omega⟩
        have g:t.h.any rR=true:=bD.2 ⟨_,aC p,by unfold rR;rw [cZ];right;exact bD.2 ⟨_,aC b,f⟩⟩;have a:xK t=false:=by simp [xK,g]
        exact u _ _ (by simp [go_sem,a])
       .exact wo (h:=wx G (m+1) ⟨j,wg,wn,wn,wj,(by rw [dU _ _ _ o,O];simp [jZ];omega)⟩)
      .have hZ:=oJ O o;exact wo (h:=wx I (k+1) ⟨wg,wj,(by rw [dU _ _ _ b,s];simp [vU,V,hZ];omega)⟩)
    .have hA:=oJ s b;exact wo (h:=wx J (i+1) ⟨wg,wj,aD,(by rw [dU _ _ _ p,P];simp [rR,U,hA])⟩)
  .have E:=oJ P p;rw [aG aD] at S;refine wv (h:=aY (λq e H=>(e 1=.adr t.c/\e 8=dI q)/\(q<=t.i.length)/\((t.i.take q).any A9=false)) (λq=>t.i.length - q) 0 ⟨wg,wi,(by rfl)⟩ λI6 F q e H A=>?_);obtain ⟨Z,hj,N⟩:=A;have Y:=wa Y Z;refine d8 (λl=>?_) λl=>?_
   .have Y:=wa Y l;refine d8 (λK=>?_) λK=>?_
    .refine wv (h:=?_);have g:t.i.any A9=true:=bD.2 ⟨_,aC l,by simp [A9,jZ];omega⟩;have a:xK t=false:=by simp [xK,g]
     exact u _ _ (by simp [go_sem,a])
    .exact wo (h:=wx F (q+1) ⟨wg,wj,(by rw [dU _ _ _ l,N];simp [A9,jZ];omega)⟩)
   .have hEe:=oJ N l;refine wv (h:=?_);have a:xK t=true:=by simp only [xK,E,hEe];simp;omega
    exact u _ _ (by simp [go_sem,a])
structure Host where
 j:Graph
 k:Yb
def Host.c (h:Host):UN:=[dLI h.j.h,.list (h.j.i.map Edge.c),.list (h.k.map cL)]
def Host.d (h:Host):D:=.agg h.c
@[go_sem] theorem Zi (l:Yb):D.O (l.map cL)=true:=dN _ (λa=>by simp [cL,D.L,qA]) l
@[go_sem] theorem Host.P (h:Host):h.d.P=true:=by simp [Host.d,Host.c,D.P,D.L,qA,Zi,xM]
structure Dr15 where
 h:List B2
 i:List B3
def Dr15.c (d:Dr15):UN:=[.list (d.h.map cP),.list (d.i.map cT3)]
@[go_sem] theorem Dr15.P (d:Dr15):D.L d.c=true:=by simp [Dr15.c,D.L,D.P,Wl,DR]
def R6 (l:List Attr)(b:UInt8)(k:Nat):Int:=match l[k]? with|some a=>a.aw+((b.toNat:Int)+7 * (k:Int)).tmod (a.ax - a.aw+1)|none=>0
def vY (l:List Attr)(b:UInt8)(k:Nat):W3:=(List.range k).map (R6 l b)
def EC (t:Types)(x:B2):Int:=BE (sG t) x.1
def Sh (t:Types)(x:B2):W3:=vY (bI t (EC t x)) x.2 (bI t (EC t x)).length
def Gm (t:Types)(ds:List B2)(k:Nat):W3:=(List.range k).map λi=>EC t (pY ds i)
def G3 (t:Types)(ds:List B2)(k:Nat):Yb:=(List.range k).map λi=>Sh t (pY ds i)
def MR (t:Types)(d:Dr15):Host :=
 ⟨⟨Gm t d.h (if (sG t).length=0 then 0 else min d.h.length 8),
  US t (Gm t d.h (if (sG t).length=0 then 0 else min d.h.length 8)) [] d.i (if (Gm t d.h (if (sG t).length=0 then 0 else min d.h.length 8)).length=0\/t.i.length=0 then 0 else min d.i.length 10)⟩,
  G3 t d.h (if (sG t).length=0 then 0 else min d.h.length 8)⟩
theorem NM (l:List Attr)(b:UInt8)(k:Nat):vY l b (k+1)=vY l b k++[R6 l b k]:=by simp [vY,bS]
theorem G5 (l:List Attr)(b:UInt8)(k:Nat):(vY l b k).length=k:=by simp [vY]
theorem T2 (t:Types)(ds:List B2)(k:Nat):Gm t ds (k+1)=Gm t ds k++[EC t (pY ds k)]:=by simp [Gm,bS]
theorem Pc (t:Types)(ds:List B2)(k:Nat):(Gm t ds k).length=k:=by simp [Gm]
theorem Td (t:Types)(ds:List B2)(k:Nat):G3 t ds (k+1)=G3 t ds k++[Sh t (pY ds k)]:=by simp [G3,bS]
theorem NK (t:Types)(ds:List B2)(k:Nat):(G3 t ds k).length=k:=by simp [G3]
theorem Q8 (t:Types)(ht:t.a8)(d:Dr15):Pua 36 [t.d,.agg d.c] (MR t d).d:=by
 have d6:=ht.ok.aT;have d7:=ht.ok.bI;obtain ⟨C,hC⟩:=gA (sG t);refine Tz.pK ⟨λt=>t==4||t==5||t==15||t==53||t==11,λr=>match r with|13=>[(0,4),(1,4),(2,4),(4,6),(5,6),(4,7),(5,7),(0,9),(1,9),(2,9),(4,9),(5,9),(6,9),(7,9),(9,11),(10,11),(9,12),(10,12)]|18=>[(0,30),(1,30),(3,30),(4,30),(5,30),(7,30),(8,30),(9,30),(11,30),(12,30),(14,30),(15,30),(16,30),(20,30),(21,30),(23,30),(24,30),(25,30)]|_=>[]⟩ func36 rfl (λQ hQ=>?_);have Y:=@Dr15.c.eq_1;refine wv (h:=aB ((by have hq:=HU t aD;rw [hC] at hq;exact hq)) wl ?_);refine wv (h:=lB (Ghosts.step (Ghosts.step (Ghosts.refl _) 1 0 0 3 1 _ _ (rfl) rfl rfl rfl) 1 0 2 48 1 _ _ ((by simp [go_sem,Y]:AHeap.get _ _=some ⟨68,3,[[.own 2 0,.nil,.nil]],false⟩)) rfl rfl rfl) (λi e H=>(e 2=.adr t.c/\e 3=.adr d.c/\e 4=.ptr 0 1 0 0/\e 5=.ptr 1 1 0 0/\e 6=dLI C/\e 7=dI i)/\(H.get 0=some ⟨68,3,[[.nil,.nil,.nil]],false⟩)/\(0<H.next)/\(H.get 1=some ⟨68,3,[[.own 2 i,.nil,.own 3 i]],false⟩)/\(1<H.next)/\(H.get 2=some ⟨3,1,(Gm t d.h i).map cI,false⟩)/\(2<H.next)/\(H.get 3=some ⟨48,1,(G3 t d.h i).map cL,false⟩)/\(3<H.next)/\(i<=8)/\(i<=d.h.length)/\(C.length=0->i=0)/\((Gm t d.h i).length=i)/\((G3 t d.h i).length=i)) (λi=>8 - i) 0 ⟨wg,wn,wn,wn,wn,(by rfl),wn,(by rfl),wn,wi,wi,(by intro _;rfl),(by exact Pc _ _ _),(by exact NK _ _ _)⟩ λI0 c6 i e H c4=>?_);obtain ⟨E0,B,w,m,v,A,u,z,s,hi,d5,hz,g,Z⟩:=c4;have Y:=xb0 Y E0 B (bL w) m (bL v) A (bL u) z (bL s) g Z;refine i7 (λh4=>?_) λh4=>?_
 .have hil:i<d.h.length:=aD;have a6:0<C.length:=aD;have d9:¬C=[]:=gI.1 a6;obtain ⟨x,W⟩:=gA (d.h[i]);have p:pY d.h i=x:=by unfold pY;rw [aA hil,<- W];rfl
  have b9:=j6 x.1;have b8:=j6 x.2;have tm:=dY (aD:0<=(x.1.toNat:Int)) (aD:(0:Int)<C.length);obtain ⟨kk,c0⟩:=Ao a6 x.1;obtain ⟨V,y⟩:=gA (C[((x.1.toNat:Int).tmod C.length).toNat]);have o:EC t (pY d.h i)=V:=by unfold EC;rw [p,hC,c0,y]
  have j:(C.length:Int)≠0:=aD;obtain ⟨b,G⟩:=gA (bI t V);have a:=ht.bu V;rw [G] at a;have Y:=xa8 Y h4 (aA hil) W @cP.eq_1 (aA kk) y j o G;refine wp (h:=aB (l7 t ht.ok V) wl ?_);refine wp (h:=aY (λk e H=>∃ c:Nat,(e 2=.adr t.c/\e 3=.adr d.c/\e 4=.ptr 0 1 0 0/\e 5=.ptr 1 1 0 0/\e 6=dLI C/\e 7=dI i/\e 8=dI V/\e 9=.list (b.map Attr.c)/\e 11=.own c k/\e 12=dI k)/\(H.get 0=some ⟨68,3,[[.nil,.nil,.nil]],false⟩)/\(0<H.next)/\(H.get 1=some ⟨68,3,[[.own 2 i,.nil,.own 3 i]],false⟩)/\(1<H.next)/\(H.get 2=some ⟨3,1,(Gm t d.h i).map cI,false⟩)/\(2<H.next)/\(H.get 3=some ⟨48,1,(G3 t d.h i).map cL,false⟩)/\(3<H.next)/\(H.get c=some ⟨3,1,(vY b x.2 k).map cI,false⟩)/\(c<H.next)/\(k<=b.length)/\(3<c)/\((vY b x.2 k).length=k)) (λk=>b.length - k) 0 ⟨H.next,wg,wn,wn,wn,wn,wn,wn,wn,wn,(by simp [go_sem,Y,vY]),wn,wi,aD,(by exact G5 _ _ _)⟩ λI2 c5 k e H c3=>?_);obtain ⟨c,E2,b5,U,b3,S,b1,P,a9,N,a7,L,hk,hc,X⟩:=c3;have c9:=xa8 (cY (aD:c≠3)) (cY (aD:c≠2)) (cY (aD:c≠1)) (cY (aD:c≠0)) (cY (aD:3≠2)) (cY (aD:3≠1)) (cY (aD:3≠0)) (cY (aD:2≠1)) (cY (aD:2≠0)) (cY (aD:1≠0));have Y:=xa2 Y @Dr15.c.eq_1 E2 (xb0 b5 (bL U) b3 (bL S) b1 (bL P) a9 (bL N) a7 (bL L) X c9);refine i7 (λl=>?_) λl=>?_
  .have hg:=a.1 _ (aC l);unfold Attr.bu at hg;have c1:=a.2;have tv:=dY (aD:0<=(x.2.toNat:Int)+7 * (k:Int)) (aD:0<b[k].ax - b[k].aw+1);have a0:R6 b x.2 k=b[k].aw+((x.2.toNat:Int)+7 * (k:Int)).tmod (b[k].ax - b[k].aw+1):=by unfold R6;rw [aA l]
   have a2:b[k].ax - b[k].aw+1≠0:=aD;have Y:=xa2 Y l (aA l) a2;exact wp (h:=wx c5 (k+1) ⟨c,wg,wn,wn,wn,wn,wn,wn,wn,wn,(by simp [go_sem,Y,NM,a0]),wn,wj,aD,(by exact G5 _ _ _)⟩)
  .have hK:k=b.length:=aD;have a1:Sh t (pY d.h i)=vY b x.2 k:=by unfold Sh;rw [o,G,p,hK]
   have c1:=a.2;have nx:=Qr H.next;have Y:=wa Y nx;exact wp (h:=wx c6 (i+1) ⟨wg,wn,wn,wn,wn,(by simp [go_sem,Y,T2,o]),wn,(by simp [go_sem,Y,Td,a1,cL,dLI]),wn,wj,wj,aD,(by exact Pc _ _ _),(by exact NK _ _ _)⟩)
 .have hI:i=(if C.length=0 then 0 else min d.h.length 8):=by
   split
   .rename_i h;exact hz h
   .rename_i h;have hq:¬ (i<d.h.length/\i<8):=λhh=>h (by rw [h4 hh.1 aD];rfl);omega
  obtain ⟨f,F⟩:=gA (Gm t d.h i);rw [F] at g;have Y:=xa0 @Dr15.c.eq_1 (xb0 E0 B (bL w) m (bL v) A (bL u) z (bL s) g Z F);refine wp (h:=lB (Ghosts.step (Ghosts.refl _) 1 0 1 134 3 _ _ (m) rfl rfl rfl) (λk e H=>∃ n:Nat,∃ q:List Edge,(e 2=.adr t.c/\e 3=.adr d.c/\e 4=.ptr 0 1 0 0/\e 5=.ptr 1 1 0 0/\e 13=dI i/\e 14=dI k)/\(H.get 0=some ⟨68,3,[[.nil,.nil,.nil]],false⟩)/\(0<H.next)/\(H.get 1=some ⟨68,3,[[.own 2 i,.own n q.length,.own 3 i]],false⟩)/\(1<H.next)/\(H.get 2=some ⟨3,1,f.map cI,false⟩)/\(2<H.next)/\(H.get 3=some ⟨48,1,(G3 t d.h i).map cL,false⟩)/\(3<H.next)/\(H.get n=some ⟨134,3,q.map Edge.c,false⟩)/\(n<H.next)/\(k<=10)/\(k<=d.i.length)/\(f.length=0\/t.i.length=0->k=0)/\(3<n)/\(q=US t f [] d.i k)/\(q.length<=k)) (λk=>10 - k) 0 ⟨H.next,([]),wg,wn,wn,wn,wn,wn,wn,wn,wn,wn,wn,wi,wi,(by intro _;rfl),aD,(by simp [US]),dB⟩ λI4 a5 k e H c2=>?_);obtain ⟨n,q,E4,b4,T,b2,R,b0,O,a8,M,K,D,hk,o,b7,d8,hy,d2⟩:=c2;have c8:=xa8 (cY (aD:n≠3)) (cY (aD:n≠2)) (cY (aD:n≠1)) (cY (aD:n≠0)) (cY (aD:3≠2)) (cY (aD:3≠1)) (cY (aD:3≠0)) (cY (aD:2≠1)) (cY (aD:2≠0)) (cY (aD:1≠0));have Y:=xa0 Y (xb0 E4 b4 (bL T) b2 (bL R) b0 (bL O) a8 (bL M) K (bL D) c8);refine i7 (λJ=>?_) λJ=>?_
  .have hkl:k<d.i.length:=aD;have c7:0<t.i.length:=aD;have d4:0<i:=aD;have d1:¬t.i=[]:=gI.1 c7;have d0:¬f=[]:=gI.1 aD;obtain ⟨x,W⟩:=gA (d.i[k]);have p:d.i[k]?.getD (0,0,0)=x:=by rw [aA hkl,<- W];rfl
   have b9:=j6 x.1;have b8:=j6 x.2.1;have d3:=j6 x.2.2;have t1:=dY (aD:0<=(x.1.toNat:Int)) (aD:(0:Int)<t.i.length);have t2:=dY (aD:0<=(x.2.1.toNat:Int)) (aD:(0:Int)<i);have t3:=dY (aD:0<=(x.2.2.toNat:Int)) (aD:(0:Int)<i);have hf:((x.2.1.toNat:Int).tmod i).toNat<f.length:=aD;have E:((x.2.2.toNat:Int).tmod i).toNat<f.length:=aD;have j:(t.i.length:Int)≠0:=aD;have a3:(i:Int)≠0:=aD;have b6:=Qr H.next;have Y:=xa9 Y J (aA hkl) W p @cT3.eq_1 (aA hf) (aA E) j a3 b6;refine wp (h:=aI (yJ t ht.ok _ _ _) wl ?_);refine i7 (λI=>?_) λI=>?_
   .have hE:Bh t f x=[mkEd t i x]:=by unfold Bh nN;rw [g];unfold mkEd;rw [if_pos (by simpa [aA hf,aA E] using I)]
    have Y:=xa1 Y hE @mkEd.eq_1;exact wp (h:=wx a5 (k+1) ⟨n,(q++Bh t f (d.i[k]?.getD (0,0,0))),wg,wn,wn,wn,wn,wn,wn,wn,wn,wn,wn,wj,wj,aD,aD,(by rw [AA,<- hy]),(by rw [aH];have:=AB t f (d.i[k]?.getD (0,0,0));omega)⟩)
   .have hE:Bh t f x=[]:=by unfold Bh nN;rw [g];unfold mkEd;rw [if_neg (by simpa [aA hf,aA E] using I)]
    have Y:=wa Y hE;exact wp (h:=wx a5 (k+1) ⟨n,(q++Bh t f (d.i[k]?.getD (0,0,0))),wg,wn,wn,wn,wn,wn,wn,wn,wn,wn,wn,wj,wj,aD,aD,(by rw [AA,<- hy]),(by rw [aH];have:=AB t f (d.i[k]?.getD (0,0,0));omega)⟩)
  .have hK:k=(if f.length=0\/t.i.length=0 then 0 else min d.i.length 10):=by
    split
    .rename_i h;exact b7 h
    .rename_i h;have hq:¬ (k<d.i.length/\k<10):=λhh=>h (.inr (by rw [J hh.1 aD aD];rfl));omega
   have a4:MR t d=⟨⟨f,q⟩,G3 t d.h i⟩:=by
    unfold MR;rw [hC,<- hI,F,<- hK,hy]
   exact wv (h:=hQ _ _ (by simp [go_sem,Y,a4,Host.d,Host.c]))
attribute [go_sem] Host.d Host.c
def Pp (l:W3):Bool:=decide (12<(l.length:Int))
def EL (h:Host):Bool:=fewG h.j&&decide ((h.k.length:Int)<=45)&&!(h.k.any Pp)
theorem K6 (h:Host):Pua 85 [h.d] (.bool (EL h)):=by
 refine Tz.p0 func85 rfl λQ j _=>?_;have Y:=wa @Host.d.eq_1 @Host.c.eq_1;refine wo (h:=aB (AX h.j) wl ?_);refine d8 (λl=>?_) λl=>?_
 .have b:EL h=false:=by cases f:fewG h.j<;>simp [f] at l<;>simp [EL,f]<;>omega
  exact wv (h:=j _ _ (by simp [go_sem,b]))
 .have hG:fewG h.j=true/\(h.k.length:Int)<=45:=by cases f:fewG h.j<;>simp [f] at l<;>exact ⟨rfl,aD⟩
  refine wv (h:=aY (λi e H=>(e 1=.adr h.c/\e 3=dI i)/\(i<=h.k.length)/\((h.k.take i).any Pp=false)) (λi=>h.k.length - i) 0 ⟨wg,wi,(by rfl)⟩ λu k i e H g=>?_);obtain ⟨p,s,m⟩:=g;have Y:=wa Y p;refine d8 (λa=>?_) λa=>?_
  .have Y:=xa2 Y a (aA a) @cL.eq_1;refine d8 (λo=>?_) λo=>?_
   .refine wv (h:=?_);have b:EL h=false:=by
     have:h.k.any Pp=true:=bD.2 ⟨_,aC a,by unfold Pp;simp;omega⟩;unfold EL;rw [this];simp
    exact j _ _ (by simp [go_sem,b])
   .exact wo (h:=wx k (i+1) ⟨wg,wj,(by rw [dU _ _ _ a,m];unfold Pp;simp;omega)⟩)
  .have b:EL h=true:=by have:=oJ m a;unfold EL;rw [hG.1,this,decide_eq_true hG.2];rfl
   exact wv (h:=j _ _ (by simp [go_sem,b]))
def eH (t:Types)(g h:Graph):Int:=if (cW t).2≠0 then (cW t).2 else if graphF g≠0 then graphF g else if graphF h≠0 then graphF h else if (!mB t g||!mB t h)=true then 13 else 0
theorem u4 (t:Types)(j:t.ok)(g h:Graph):Pua 186 [t.d,g.d,h.d] (dI (eH t g h)):=by
 refine Tz.p0 func186 rfl λQ c Y=>?_;refine wv (h:=aB (r9 t j) wl ?_);refine dK (λb=>?_) λb=>?_
 .exact wv (h:=c _ _ (by simp [go_sem,eH,b]))
 .refine wv (h:=aB (kH g) wl ?_);refine dK (λe=>?_) λe=>?_
  .exact wv (h:=c _ _ (by simp [go_sem,eH,b,e]))
  .refine wv (h:=aB (kH h) wl ?_);refine dK (λf=>?_) λf=>?_
   .exact wv (h:=c _ _ (by simp [go_sem,eH,b,e,f]))
   .refine wo (h:=aB (u5 t g) wl ?_);refine wo (h:=aK (λi=>u5 t h) (λi=>wl) ?_);refine d8 (λa=>?_) λa=>?_
    .exact wv (h:=c _ _ (by simp [go_sem,eH,b,e,f];intro i;rcases a with h|h<;>simp_all))
    .exact wv (h:=c _ _ (by simp [go_sem,eH,b,e,f];simpa using a))
def light17 (t:Types)(g h:Graph):Bool:=xK t&&fewG g&&fewG h&&(decide (eH t g h≠0)||(decide ((g.h.length:Int)+g.i.length<=6)&&decide ((h.h.length:Int)<=8)&&decide ((h.i.length:Int)<=12)))
theorem OM (t:Types)(b:t.ok)(g h:Graph):Pua 132 [t.d,g.d,h.d] (.bool (light17 t g h)):=by
 refine Tz.p0 func132 rfl λQ e _=>?_;have f:xK t=true->fewG g=true->fewG h=true->eH t g h=0->S7 .i64 ((g.h.length:Int)+g.i.length):=λ_ a _ _=>by simp [fewG] at a;exact dL aD aD
 have Y:=trivial;refine wo (h:=aB (K9 t (λn c=>dH (b.h n c).bg aD)) wl ?_);refine wo (h:=aK (λa=>AX g) (λa=>wl) ?_);refine wo (h:=aK (λa=>AX h) (λa=>wl) ?_);refine wo (h:=aK (λa=>u4 t b g h) (λa=>wl) ?_);have Y:=wa Y @light17.eq_1;exact wo (h:=e _ _ wy)
def light21 (t:Types)(p:Pattern)(h:Host):Bool:=fewP p&&EL h&&light17 t p.j h.j
theorem OI (t:Types)(b:t.ok)(p:Pattern)(h:Host):Pua 87 [t.d,p.d,h.d] (.bool (light21 t p h)):=by
 refine Tz.p0 func87 rfl λQ e _=>?_;have Y:=wa @Host.c.eq_1 @Pattern.c.eq_1;refine wo (h:=aB (wX p) wl ?_);refine wo (h:=aK (λa=>K6 h) (λa=>wl) ?_);refine wo (h:=aK (λa=>OM t b p.j h.j) (λa=>wl) ?_);have Y:=wa Y @light21.eq_1;exact wo (h:=e _ _ wy)
end Go.Abs
end
