/- The graph and the tests of a draft; the marks of parts. · Th -/
import Derived.Test.YtpdanmkcpjdmjaaGreatZkAF
import Derived.Test.YtpdanmkcpjdmjaaGreatZkAA
import Derived.Test.YtpdanmkcpjdmjaaGreatZkAK
set_option linter.unusedVariables false
set_option linter.unusedSimpArgs false
section
set_option maxRecDepth 100000
set_option maxHeartbeats 4000000
open Go Go.Proofs Tryz
namespace Go.Abs
def remF (a b:Int):Int:=(a.tmod b+b).tmod b
theorem He (a:Int){b:Int}(c:0<b) : -b<a.tmod b/\a.tmod b<b:=by
 refine ⟨?_,Int.tmod_lt_of_pos _ c⟩;rcases Int.le_total 0 a with h|h
 .have:=Int.tmod_nonneg b h;omega
 .have h1:(-a).tmod b = -(a.tmod b):=Int.neg_tmod _ _;have:=Int.tmod_lt_of_pos (-a) c;omega
theorem Mz (a:Int){b:Int}(c:0<b):0<=remF a b/\remF a b<b:=by
 have:=He a c;exact dY aD c
theorem sM (a b:Int)(e:0<b/\b<=1000000):Pua 121 [dI a,dI b] (dI (remF a b)):=by
 have d:=He a e.1;have c:b≠0:=aD;refine Tz.p0 func121 rfl λQ f _=>?_;have Y:=c;have Y:=wa Y @remF.eq_1;exact wo (h:=f _ _ wy)
abbrev T4:=Int8 × Int8 × Int8 × Int8
def cT4 (x:T4):UN:=[.int .i8 x.1.toInt,.int .i8 x.2.1.toInt,.int .i8 x.2.2.1.toInt,.int .i8 x.2.2.2.toInt]
@[go_sem] theorem S1 (l:List T4):D.O (l.map cT4)=true:=dN _ (λ_=>rfl) l
theorem SH (x:Int8) : -128<=x.toInt/\x.toInt<=127:=by grind [x.le_toInt, x.toInt_lt]
def made3 (v:Int)(x:T4):Test:=⟨1+(remF x.1.toInt 4).tdiv 3,⟨remF x.2.1.toInt (v+1) - 1,0⟩,⟨remF x.2.2.1.toInt (v+1) - 1,x.2.2.2.toInt.tmod 12⟩⟩
theorem Rd (v:Int)(i:0<=v/\v<=1000)(x:T4):Pua 71 [dI v,.agg (cT4 x)] (.agg (made3 v x).c):=by
 have m:=SH x.1;have l:=SH x.2.1;have k:=SH x.2.2.1;have j:=SH x.2.2.2;have a:=Mz x.1.toInt (aD:(0:Int)<4);have g:=Mz x.2.1.toInt (aD:0<v+1);have f:=Mz x.2.2.1.toInt (aD:0<v+1);have e:=He x.2.2.2.toInt (aD:(0:Int)<12);have d:=WS a.1 (aD:(0:Int)<3);refine Tz.pK ⟨λt=>t==4,λ_=>[]⟩ func71 rfl (λQ b=>?_);have Y:=@cT4.eq_1;refine wo (h:=aB (sM x.1.toInt 4 aD) wl ?_);refine wo (h:=aI (sM x.2.1.toInt (v+1) aD) wl ?_);refine wo (h:=aI (sM x.2.2.1.toInt (v+1) aD) wl ?_);have Y:=xa1 Y @made3.eq_1 @Test.c.eq_1;exact wo (h:=b _ _ wy)
def Dm (g:Graph)(nb eb:List Bool)(k:Nat):List Bool:=(List.range k).foldl (λacc i=>if eb[i]?.getD false=true then (acc.set (g.i[i]?.getD ⟨0,0,0⟩).w.toNat true).set (g.i[i]?.getD ⟨0,0,0⟩).M.toNat true else acc) nb
theorem EA (g:Graph)(nb a:List Bool)(k:Nat):Dm g nb a (k+1)=if a[k]?.getD false=true then ((Dm g nb a k).set (g.i[k]?.getD ⟨0,0,0⟩).w.toNat true).set (g.i[k]?.getD ⟨0,0,0⟩).M.toNat true else Dm g nb a k:=by
 simp only [Dm,bS,j4,rT,List.foldl_nil]
theorem t8 (g:Graph)(nb eb:List Bool):∀ k,(Dm g nb eb k).length=nb.length
 | 0=>rfl
 | k+1=>by
  rw [EA];split
  .rw [fV,fV,t8 g nb eb k]
  .exact t8 g nb eb k
def Graph.aU (g:Graph):Prop:=∀ x∈g.i,(0<=x.w/\x.w<g.h.length)/\0<=x.M/\x.M<g.h.length
theorem OQ (g:Graph)(K:g.h.length<=100000)(M:g.i.length<=100000)(v:g.aU)(nb h:List Bool)(j:nb.length=g.h.length)(x:h.length=g.i.length) :
  Pua 72 [g.d,.list (nb.map cB),.list (h.map cB)] (Part.d ⟨FI (Dm g nb h g.i.length),FI h⟩):=by
 refine Tz.pK ⟨λt=>t==6||t==9,λ_=>[]⟩ func72 rfl (λQ G=>?_);have f:(∀ c∈nb.map cB,c.length=1)=True:=eq_true (by intro c C;rw [aW] at C;obtain ⟨b,_,rfl⟩:=C;rfl);have Y:=wa j x;try simp [go_sem,seval,Y,↓f]
 repeat first|intro _|refine ⟨gX,?_⟩
 refine aY (λi e H=>(e 3=.adr g.c/\e 2=.list (h.map cB)/\e 6=.ptr 0 1 0 0/\e 7=.own 1 g.h.length/\e 8=dI i)/\(H.get 0=some ⟨57,2,[[.nil,.nil]],false⟩)/\(0<H.next)/\(H.get 1=some ⟨4,1,(Dm g nb h i).map cB,false⟩)/\(1<H.next)/\(i<=g.i.length)/\((Dm g nb h i).length=g.h.length)) (λi=>g.i.length - i) 0 ⟨(by and_intros<;>first|omega|(simp [go_sem,seval]<;>omega)),((by first|omega|(simp [go_sem,seval]<;>omega))),((by first|omega|(simp [go_sem,seval]<;>omega))),(by simp [go_sem,Dm]),((by first|omega|(simp [go_sem,seval]<;>omega))),(by first|assumption|omega|(simp [go_sem,Y,↓f];done)|(simp_all;done)),(by rw [t8];exact j)⟩ λO o i e H w=>?_;obtain ⟨I,q,m,p,l,L,u⟩:=w;have Y:=xa5 Y I q (bL m) p (bL l) u;try simp [go_sem,seval,Y]
 repeat first|intro _|refine ⟨gX,?_⟩
 refine wq (λk=>?_) λk=>?_
 .have hib:i<h.length:=aD;have F:h[i]?.getD false=h[i]:=by rw [aA hib];rfl
  have J:=v _ (aC k);have s:g.i[i]?.getD ⟨0,0,0⟩=g.i[i]:=by rw [aA k];rfl
  have B:g.i[i].w.toNat<(Dm g nb h i).length:=by rw [u];omega
  have A:g.i[i].M.toNat<(Dm g nb h i).length:=by rw [u];omega
  obtain ⟨z,E⟩:∃ z,(((Dm g nb h i).map cB).set g.i[i].w.toNat [D.bool true])[g.i[i].M.toNat]?=some [z]:=by
   rw [dA];by_cases n:g.i[i].w.toNat=g.i[i].M.toNat
   .rw [if_pos n,if_pos (by rw [aT];exact B)];exact ⟨_,rfl⟩
   .rw [if_neg n,aM,aA A];exact ⟨_,rfl⟩
  have Y:=xa6 Y k (aA k) (aA hib) (aA B) (aA A) s E;try simp [go_sem,seval,Y]
  repeat first|intro _|refine ⟨gX,?_⟩
  refine wq (λy=>?_) λy=>?_
  .have Y:=wa Y y;try simp [go_sem,seval,Y]
   repeat first|intro _|refine ⟨gX,?_⟩
   exact wx o (i+1) ⟨(by and_intros<;>first|omega|(simp [go_sem,seval,Y]<;>omega)),((by first|omega|(simp [go_sem,seval,Y]<;>omega))),((by first|omega|(simp [go_sem,seval]<;>omega))),(by simp [go_sem,Y,EA]),((by first|omega|(simp [go_sem,seval]<;>omega))),(by first|assumption|omega|(simp [go_sem,Y,↓f];done)|(simp_all<;>omega)),(by rw [t8];exact j)⟩
  .have Y:=wa Y y;try simp [go_sem,seval,Y]
   repeat first|intro _|refine ⟨gX,?_⟩
   exact wx o (i+1) ⟨(by and_intros<;>first|omega|(simp [go_sem,seval,Y]<;>omega)),((by first|omega|(simp [go_sem,seval,Y,↓f]<;>omega))),((by first|omega|(simp [go_sem,seval,Y,↓f]<;>omega))),(by simp [go_sem,Y,EA]),((by first|omega|(simp [go_sem,seval,Y,↓f]<;>omega))),(by first|assumption|omega|(simp [go_sem,Y,↓f];done)|(simp_all<;>omega)),(by rw [t8];exact j)⟩
 .have hI:i=g.i.length:=aD;subst hI;try simp [go_sem,seval,Y]
  refine AM (C0 (Dm g nb h g.i.length) (by rw [t8];omega)) (by (simp [go_sem,Y])<;>rfl) (by first|rfl|(simp [go_sem];done)) (by (simp [go_sem,Y])<;>rfl) ?_;try simp [go_sem,seval,Y]
  refine aB (C0 h aD) (by first|rfl|(simp [go_sem];done)) ?_;try simp [go_sem,seval,Y]
  have Y:=wa Y k;exact G _ _ (by simp [go_sem]<;>first|omega|(rw [aS];simp<;>omega)|(simp_all<;>omega))
def Wm (k:UInt64)(i:Nat):Bool:=(k.toNat:Int).fdiv (2 ^ (min ((i:Int).tmod 64).toNat 64)) % 2==1
def Gz (k:UInt64)(off n:Nat):List Bool:=(List.range n).map λj=>Wm k (off+j)
def Bk (k:UInt64)(off n i:Nat):List Bool:=(List.range n).map λj=>decide (j<i)&&Wm k (off+j)
theorem LT (k:UInt64)(a n:Nat):Bk k a n 0=List.replicate n false:=by
 unfold Bk;apply fL;intro j;grind
theorem AN (k:UInt64)(a n i:Nat):(Bk k a n i).length=n:=by simp [Bk]
theorem Qb (k:UInt64)(a n:Nat):Bk k a n n=Gz k a n:=by
 unfold Bk Gz;simp_all
theorem Qa {k:UInt64}{a n i:Nat}(h:i<n):(Bk k a n i).set i (Wm k (a+i))=Bk k a n (i+1):=by
 apply fL;intro j;rw [dA,AN];by_cases b:i=j
 .subst b;simp [h,Bk]
 .rw [if_neg b];simp only [Bk,aM];by_cases c:j<n
  .rw [fR c];simp only [dM];rw [show decide (j<i+1)=decide (j<i) by rw [decide_eq_decide];omega]
  grind
def BG (g:Graph)(k:UInt64):Part:=⟨FI (Dm g (Gz k 0 g.h.length) (Gz k g.h.length g.i.length) g.i.length),FI (Gz k g.h.length g.i.length)⟩
theorem Q9 (g:Graph)(M:g.h.length<=100000)(N:g.i.length<=100000)(B:g.aU)(k:UInt64):Pua 38 [g.d,.int .u64 (k.toNat:Int)] (Part.d (BG g k)):=by
 refine Tz.pK ⟨λt=>t==4||t==12||t==16,λr=>match r with|1=>[(3,4),(3,5),(3,6),(0,7),(1,7),(2,7),(3,7)]|_=>[]⟩ func38 rfl (λQ O=>?_);have Y:=trivial;refine wp (h:=aY (λi e H=>(e 2=.adr g.c/\e 1=.int .u64 (k.toNat:Int)/\e 4=.ptr 0 1 0 0/\e 5=.own 4 g.h.length/\e 6=.own 8 g.i.length/\e 7=dI i)/\(H.get 0=some ⟨57,2,[[.nil,.nil]],false⟩)/\(0<H.next)/\(H.get 4=some ⟨4,1,(Bk k 0 g.h.length i).map cB,false⟩)/\(4<H.next)/\(H.get 8=some ⟨4,1,(List.replicate g.i.length false).map cB,false⟩)/\(8<H.next)/\(i<=g.h.length)/\((Bk k 0 g.h.length i).length=g.h.length)) (λi=>g.h.length - i) 0 ⟨wg,wn,wn,(by simp [go_sem,LT,cB]),wn,(by simp [go_sem,cB]),wn,wi,(by exact AN _ _ _ _)⟩ λT I i e H E=>?_);obtain ⟨L,v,n,s,l,p,b,R,w⟩:=E;have Y:=xa7 Y L v (bL n) s (bL l) p (bL b) w;refine i7 (λz=>?_) λz=>?_
 .have tm:=dY (aD:0<=(i:Int)) (aD:(0:Int)<64);have C:i<(Bk k 0 g.h.length i).length:=by rw [w];exact z
  have Y:=xa1 Y z (aA C);exact wp (h:=wx I (i+1) ⟨wg,wn,wn,(by simp [go_sem,Y,<- Qa z,b6,Wm,cB]),wn,(by simp [go_sem,Y]),wn,wj,(by exact AN _ _ _ _)⟩)
 .have hI:i=g.h.length:=aD;subst hI;have F:=Qb k 0 g.h.length;rw [F] at w;have Y:=xa7 L v (bL n) s (bL l) p (bL b) w F;refine wv (h:=aY (λj e H=>(e 2=.adr g.c/\e 1=.int .u64 (k.toNat:Int)/\e 4=.ptr 0 1 0 0/\e 5=.own 4 g.h.length/\e 6=.own 8 g.i.length/\e 8=dI j)/\(H.get 0=some ⟨57,2,[[.nil,.nil]],false⟩)/\(0<H.next)/\(H.get 4=some ⟨4,1,(Gz k 0 g.h.length).map cB,false⟩)/\(4<H.next)/\(H.get 8=some ⟨4,1,(Bk k g.h.length g.i.length j).map cB,false⟩)/\(8<H.next)/\(j<=g.i.length)/\((Bk k g.h.length g.i.length j).length=g.i.length)) (λj=>g.i.length - j) 0 ⟨wg,wn,wn,(by simp [go_sem,Y]),wn,(by simp [go_sem,Y,LT]),wn,wi,(by exact AN _ _ _ _)⟩ λS G j e H D=>?_);obtain ⟨K,u,m,q,f,o,a,P,x⟩:=D;have Y:=xa7 Y K u (bL m) q (bL f) o (bL a) x;refine i7 (λy=>?_) λy=>?_
  .have tm:=dY (aD:0<=(g.h.length:Int)+(j:Int)) (aD:(0:Int)<64);have A:j<(Bk k g.h.length g.i.length j).length:=by rw [x];exact y
   have Y:=xa1 Y y (aA A);exact wp (h:=wx G (j+1) ⟨wg,wn,wn,(by simp [go_sem,Y]),wn,(by simp [go_sem,Y,<- Qa y,b6,Wm,cB]),wn,wj,(by exact AN _ _ _ _)⟩)
  .have hJ:j=g.i.length:=aD;subst hJ;have J:=Qb k g.h.length g.i.length;rw [J] at x;have Y:=xa9 w F K u (bL m) q (bL f) o (bL a) x J;refine wv (h:=AM (OQ g M N B (Gz k 0 g.h.length) (Gz k g.h.length g.i.length) (by simp [Gz]) (by simp [Gz])) wz wl wz ?_);exact wv (h:=O _ _ (by simp [go_sem,Y,BG]))
def EY (t:Types)(ns:W3)(k:Int)(i:Nat):Bool:=mem (t.ao (ns[i]?.getD 0).toNat) k
def wK (t:Types)(ns:W3)(k:Int):W3:=((List.range ns.length).filter (EY t ns k)).map λ(i:Nat)=>(i:Int)
theorem Fv (t:Types)(A:t.aj)(g:Graph)(F:g.h.length<=100000)(s:∀ a∈g.h,0<=a/\a<t.h.length)(k:Int)(B:0<=k):Own prog 120 [t.d,g.d,dI k] 3 1 ((wK t g.h k).map cI):=by
 refine Tz.oK ⟨λt=>t==7,λ_=>[]⟩ func120 rfl (λQ C=>?_);have Y:=trivial;refine wv (h:=aY (λi e H=>∃ f:W3,(e 3=.adr t.c/\e 4=.adr g.c/\e 2=dI k/\e 7=.own 0 f.length/\e 8=dI i)/\(H.get 0=some ⟨3,1,f.map cI,false⟩)/\(0<H.next)/\(i<=g.h.length)/\(f.length<=i)/\(f=((List.range i).filter (EY t g.h k)).map (λ(b:Nat)=>(b:Int)))) (λi=>g.h.length - i) 0 ⟨([]),wg,wn,wn,wi,dB,(by rfl)⟩ λJ m i e H r=>?_);obtain ⟨f,D,o,l,G,z,p⟩:=r;have Y:=xa2 Y D o (bL l);refine d8 (λn=>?_) λn=>?_
 .have hx:=s _ (aC n);have q:((g.h[i].toNat:Nat):Int)=g.h[i]:=aD;have u:EY t g.h k i=mem (t.ao g.h[i].toNat) k:=by simp [EY,aA n]
  have Y:=xa2 Y n (aA n) u;refine wo (h:=aI ((by have x:=s4 t A k B g.h[i].toNat aD;rw [q] at x;exact x)) wl ?_);refine d8 (λv=>?_) λv=>?_
  .have Y:=wa Y v;exact wo (h:=wx m (i+1) ⟨(f++(if EY t g.h k i=true then [(i:Int)] else [])),wg,wn,wn,wj,(by rw [aH];split<;>simp<;>omega),(by rw [b7,<- p])⟩)
  .have Y:=wa Y v;exact wo (h:=wx m (i+1) ⟨(f++(if EY t g.h k i=true then [(i:Int)] else [])),wg,wn,wn,wj,(by rw [aH];split<;>simp<;>omega),(by rw [b7,<- p])⟩)
 .have hY:wK t g.h k=f:=by rw [p,(aD:i=g.h.length)];rfl
  refine wv (h:=?_);exact C _ _ _ (by simp [go_sem,hY]) (by simp [go_sem,Y,hY])
def Attr.bu (x:Attr):Prop:=x.aw<=x.ax/\-1000<=x.aw/\x.ax<=1000
theorem yV (b:ByteArray)(i j:Nat):(b.extract i j).size<=b.size:=by grind [ByteArray.size_extract]
theorem Aq (i:Nat)(x:B2):(Ar i x).r.length<=1/\∀ a∈(Ar i x).r,a.bu/\a.ok:=by
 have f:=dY (aD:0<=(x.2.toNat:Int) / 4) (aD:(0:Int)<9);have c:=yV tyU i (i+1);have e:tyU.size=6:=rfl;unfold Ar;by_cases d:(x.2.toNat:Int).tmod 4=1
 .simp only [d,if_true];refine ⟨by simp,λa b=>?_⟩;simp only [bG] at b;subst b;exact ⟨⟨by simp only;omega,by simp only;omega,by simp only;omega⟩,⟨by simp only;omega,by simp,by simp⟩⟩
 .by_cases h2:(x.2.toNat:Int).tmod 4=2
  .rw [if_neg d,if_pos h2];refine ⟨by simp,λa b=>?_⟩;simp only [bG] at b;subst b;refine ⟨⟨by simp,by simp,by simp⟩,⟨by simp only;omega,λs c=>?_,by simp⟩⟩;simp only [aV,fJ,or_false] at c;rcases c with rfl|rfl
   .show (3:Nat)<=100000;omega
   .show (2:Nat)<=100000;omega
  grind
theorem B5 {ns es:List B2}{j:Nat}{n:NodeTy}(h:(p6 ns es).h[j]?=some n):j<qM ns/\n=Ar j (pY ns j):=by
 simp only [p6,Ew,aM] at h;grind
theorem Lt (ns es:List B2):(p6 ns es).h.length=qM ns/\0<qM ns/\qM ns<=6/\(p6 ns es).i.length<=5:=by
 refine ⟨Ro _ _,by unfold qM;omega,by unfold qM;omega,by simp only [p6,B6];omega⟩
theorem Ip {ns es:List B2}{x:EdgeTy}(h:x∈(p6 ns es).i):(0<=x.w/\x.w<qM ns)/\(0<=x.M/\x.M<qM ns)/\x.ok:=by
 simp only [p6,wC,aW] at h;obtain ⟨i,_,rfl⟩:=h;have f:0<qM ns:=by unfold qM;omega
 have c:=dY (show 0<=((pY es i).1.toNat:Int) by omega) (aD:(0:Int)<qM ns);have b:=dY (show 0<=((pY es i).2.toNat:Int) by omega) (aD:(0:Int)<qM ns);have e:=yV tyE i (i+1);have a:tyE.size=5:=rfl;exact ⟨c,b,⟨by simp only [Sz];omega⟩⟩
theorem Js (nodes:List NodeTy)(h:∀ n∈nodes,n.r.length<=1):∀ f a,(jT nodes f a).length<=f
 | 0,a=>by simp [jT]
 | f+1,a=>by
  unfold jT;split
  .simp
  .rename_i n hn;have:=h n (aL hn);have h2:=Js nodes h f n.D.toNat
   simp only [aH];split<;>simp<;>omega
theorem Jt {p:Attr->Prop}(nodes:List NodeTy)(h:∀ n∈nodes,∀ a∈n.r,p a):∀ f a,∀ x∈jT nodes f a,p x
 | 0,a,x,hx=>by simp [jT] at hx
 | f+1,a,x,hx=>by
  unfold jT at hx;split at hx
  .cases hx
  .rename_i n hn;rcases aX.1 hx with hx|hx
   .split at hx
    .exact Jt nodes h f _ x hx
    .cases hx
   .exact h n (aL hn) x hx
theorem Ev {ns es:List B2}{n:NodeTy}(h:n∈(p6 ns es).h):∃ j,n=Ar j (pY ns j):=by
 obtain ⟨j,a⟩:=List.getElem?_of_mem h;exact ⟨j,(B5 a).2⟩
theorem Pj (ns es:List B2):(p6 ns es).aj:=by
 obtain ⟨c,g,f,e⟩:=Lt ns es;refine ⟨aD,aD,aD,λj n a=>?_,λj n a=>?_,λj h=>?_,λx d=>?_⟩
 .obtain ⟨_,rfl⟩:=B5 a;have:=dY (show 0<=((pY ns j).1.toNat:Int) by omega) (aD:0<(j:Int)+1);simp only [Ar];omega
 .obtain ⟨_,rfl⟩:=B5 a;have:=dY (show 0<=((pY ns j).1.toNat:Int) by omega) (aD:0<(j:Int)+1);simp only [Ar];omega
 .have:=Js (p6 ns es).h (λn a=>by obtain ⟨j,rfl⟩:=Ev a;exact (Aq j _).1) (j+1) j;unfold Types.r;omega
 .obtain ⟨k,i,_⟩:=Ip d;simp only [insideF,c];simp;omega
theorem VE (ns es:List B2):(p6 ns es).ok:=by
 obtain ⟨i,h,g,f⟩:=Lt ns es;refine ⟨λn d=>?_,λx a=>(Ip a).2.2,aD,aD⟩;obtain ⟨j,rfl⟩:=Ev d;have e:=Aq j (pY ns j);have k:=yV tyA j (j+1);have c:tyA.size=6:=rfl;exact ⟨by simp only [Ar];omega,λx a=>(e.2 x a).2,aD⟩
theorem Rn (ns es:List B2)(a:Int):(∀ x∈bI (p6 ns es) a,x.bu)/\(bI (p6 ns es) a).length<=8:=by
 unfold bI;split
 .rename_i h;have d:=(uC h);refine ⟨λx c=>Jt (p:=Attr.bu) (p6 ns es).h (λn e y b=>by obtain ⟨j,rfl⟩:=Ev e;exact ((Aq j _).2 y b).1) _ _ x c,d.1.r _ aD⟩
 .simp
structure Types.a8 (t:Types):Prop where
 ok:t.ok
 aj:t.aj
 bu:∀ a,(∀ x∈bI t a,x.bu)/\(bI t a).length<=8
theorem Io (ns es:List B2):(p6 ns es).a8:=⟨VE ns es,Pj ns es,Rn ns es⟩
abbrev B3:=UInt8 × UInt8 × UInt8
def cT3 (x:B3):UN:=[.int .u8 (x.1.toNat:Int),.int .u8 (x.2.1.toNat:Int),.int .u8 (x.2.2.toNat:Int)]
@[go_sem] theorem DR (l:List B3):D.O (l.map cT3)=true:=dN _ (λ_=>rfl) l
structure Dr5 where
 h:List UInt8
 i:List B3
def Dr5.c (d:Dr5):UN:=[.list (d.h.map cU),.list (d.i.map cT3)]
@[go_sem] theorem Dr5.P (d:Dr5):D.L d.c=true:=by simp [Dr5.c,D.L,D.P,Nm,DR]
def Dj (n:Nat)(ds:List UInt8)(k:Nat):W3:=(List.range k).map λi=>((ds[i]?.getD 0).toNat:Int).tmod n
def Tk (t:Types)(k:Int):EdgeTy:=t.i[k.toNat]?.getD ⟨⟨#[]⟩,0,0,0,0,0,0⟩
def BE (l:W3)(b:UInt8):Int:=l[((b.toNat:Int).tmod l.length).toNat]?.getD 0
def Is (t:Types)(ns:W3)(x:B3):List Edge :=
 if 0<(wK t ns (Tk t ((x.1.toNat:Int).tmod t.i.length)).w).length/\0<(wK t ns (Tk t ((x.1.toNat:Int).tmod t.i.length)).M).length then
  [⟨(x.1.toNat:Int).tmod t.i.length,BE (wK t ns (Tk t ((x.1.toNat:Int).tmod t.i.length)).w) x.2.1,BE (wK t ns (Tk t ((x.1.toNat:Int).tmod t.i.length)).M) x.2.2⟩] else []
def MU (t:Types)(ns:W3)(es:List B3)(k:Nat):List Edge:=(List.range k).flatMap λi=>Is t ns (es[i]?.getD (0,0,0))
def nC (t:Types)(d:Dr5):Graph:=⟨Dj t.h.length d.h (min d.h.length 8),if t.i.length=0 then [] else MU t (Dj t.h.length d.h (min d.h.length 8)) d.i (min d.i.length 10)⟩
theorem Ud (n:Nat)(ds:List UInt8)(k:Nat):Dj n ds (k+1)=Dj n ds k++[((ds[k]?.getD 0).toNat:Int).tmod n]:=by simp [Dj,bS]
theorem It (n:Nat)(ds:List UInt8)(k:Nat):(Dj n ds k).length=k:=by simp [Dj]
theorem VH {n:Nat}(hn:0<n){ds:List UInt8}{k:Nat}{x:Int}(h:x∈Dj n ds k):0<=x/\x<n:=by
 simp only [Dj,aW] at h;obtain ⟨i,_,rfl⟩:=h;exact dY aD aD
theorem Ez (t:Types)(ns:W3)(es:List B3)(k:Nat):MU t ns es (k+1)=MU t ns es k++Is t ns (es[k]?.getD (0,0,0)):=by simp [MU,bS]
theorem Ir (t:Types)(ns:W3)(x:B3):(Is t ns x).length<=1:=by grind [Is]
theorem Pn (t:Types)(ns:W3)(es:List B3):∀ k,(MU t ns es k).length<=k
 | 0=>by simp [MU]
 | k+1=>by rw [Ez,aH];have:=Pn t ns es k;have:=Ir t ns (es[k]?.getD (0,0,0));omega
theorem Jy {t:Types}{ns:W3}{k x:Int}(h:x∈wK t ns k):0<=x/\x<ns.length:=by
 simp only [wK,aW,fK,bA] at h;grind
theorem Ao {l:W3}(h:0<l.length)(b:UInt8):∃ hk:((b.toNat:Int).tmod l.length).toNat<l.length,BE l b=l[((b.toNat:Int).tmod l.length).toNat]:=by
 have:=dY (aD:0<=(b.toNat:Int)) (aD:(0:Int)<l.length);have hk:((b.toNat:Int).tmod l.length).toNat<l.length:=aD;exact ⟨hk,by unfold BE;rw [aA hk];rfl⟩
theorem Ld {l:W3}(h:0<l.length)(b:UInt8):BE l b∈l:=by
 obtain ⟨hk,e⟩:=Ao h b;grind
theorem Ue (t:Types)(ns:W3)(es:List B3)(k:Nat):Graph.aU ⟨ns,MU t ns es k⟩:=by
 intro x a;simp only [MU,bK] at a;obtain ⟨i,_,a⟩:=a;unfold Is at a;split at a
 .rename_i h;simp only [bG] at a;subst a;exact ⟨Jy (Ld h.1 _),Jy (Ld h.2 _)⟩
 .cases a
theorem Pl (t:Types)(d:Dr5):(nC t d).aU:=by
 unfold nC;split
 .intro x a;cases a
 .exact Ue _ _ _ _
theorem Iq (t:Types)(d:Dr5):(nC t d).h.length<=8/\(nC t d).i.length<=10:=by
 unfold nC;refine ⟨by simp only [It];omega,?_⟩;split
 .simp
 .exact dH (Pn _ _ _ _) aD
theorem Q6 (t:Types)(M:t.a8)(d:Dr5):Pua 70 [t.d,.agg d.c,.bool true] (nC t d).d:=by
 have d3:=M.ok.aT;have d4:=M.ok.bI;have E:=M.aj.ne;have X:t.h≠[]:=by intro h;rw [h] at E;simp at E
 refine Tz.pK ⟨λt=>t==6||t==7||t==9,λr=>match r with|11=>[(0,14),(1,14)]|18=>[(0,30),(1,30)]|_=>[]⟩ func70 rfl (λQ hQ=>?_);have Y:=@Dr5.c.eq_1;refine wv (h:=aY (λi e H=>(e 3=.adr t.c/\e 4=.adr d.c/\e 2=.bool true/\e 6=.ptr 0 1 0 0/\e 7=.own 1 i/\e 8=dI i)/\(H.get 0=some ⟨51,2,[[.nil,.nil]],false⟩)/\(0<H.next)/\(H.get 1=some ⟨3,1,(gB i).map cI,false⟩)/\(1<H.next)/\(i<=t.h.length)/\((gB i).length=i)) (λi=>t.h.length - i) 0 ⟨wg,wn,wn,(by rfl),wn,wi,(by exact iF _)⟩ λI0 c3 i e H c0=>?_);obtain ⟨E0,b0,U,a8,S,hi,hl⟩:=c0;have Y:=xa5 Y E0 b0 (bL U) a8 (bL S) hl;refine i7 (λh3=>?_) λh3=>?_
 .have Y:=xa1 Y h3 (aA h3);exact wp (h:=wx c3 (i+1) ⟨wg,wn,wn,(by simp [go_sem,Y,xA]),wn,wj,(by exact iF _)⟩)
 .have hI:i=t.h.length:=aD;subst hI;have N:=Qr H.next;have Y:=wa Y N;refine wv (h:=lB (Ghosts.step (Ghosts.refl _) H.next 0 0 3 1 _ _ ((by simp [go_sem,Y]:AHeap.get _ _=some ⟨51,2,[[.nil,.nil]],false⟩)) rfl rfl rfl) (λi e H=>∃ c:Nat,∃ a:Nat,(e 3=.adr t.c/\e 4=.adr d.c/\e 2=.bool true/\e 6=.ptr 0 1 0 0/\e 7=.own 1 t.h.length/\e 9=.ptr c 1 0 0/\e 10=dI i)/\(H.get 0=some ⟨51,2,[[.nil,.nil]],false⟩)/\(0<H.next)/\(H.get 1=some ⟨3,1,(gB t.h.length).map cI,false⟩)/\(1<H.next)/\(H.get c=some ⟨51,2,[[.own a i,.nil]],false⟩)/\(c<H.next)/\(H.get a=some ⟨3,1,(Dj t.h.length d.h i).map cI,false⟩)/\(a<H.next)/\(i<=8)/\(i<=d.h.length)/\(1<c/\c<a)/\((Dj t.h.length d.h i).length=i)) (λi=>8 - i) 0 ⟨H.next,(H.next+1),wg,wn,wn,wn,wn,wn,wn,(by simp [go_sem,Y,Dj]),wn,wi,wi,aD,(by exact It _ _ _)⟩ λI2 K i e H b9=>?_);obtain ⟨c,a,E2,y,s,w,p,u,m,v,o,hi,d2,hc,F⟩:=b9;have b1:=xa4 (cY (aD:a≠c)) (cY (aD:a≠1)) (cY (aD:a≠0)) (cY (aD:c≠1)) (cY (aD:c≠0)) (cY (aD:1≠0));have Y:=xa0 Y (xb0 @Dr5.c.eq_1 E2 y (bL s) w (bL p) u (bL m) v (bL o) F b1);refine i7 (λh9=>?_) λh9=>?_
  .have b4:=j6 d.h[i];have c2:d.h[i]?.getD 0=d.h[i]:=by rw [aA aD];rfl
   have z:=dY (aD:0<=(d.h[i].toNat:Int)) (aD:(0:Int)<t.h.length);have Z:=Ii (n:=t.h.length) (a:=((d.h[i].toNat:Int).tmod t.h.length).toNat) aD;rw [Int.toNat_of_nonneg z.1] at Z;have j:(t.h.length:Int)≠0:=aD;have b7:=iF t.h.length;have Y:=xa5 Y h9 (aA (aD:i<d.h.length)) Z j @cU.eq_1 b7;exact wp (h:=wx K (i+1) ⟨c,a,wg,wn,wn,wn,wn,wn,wn,(by simp [go_sem,Y,Ud,c2]),wn,wj,wj,aD,(by exact It _ _ _)⟩)
  .have h9':¬ (i<d.h.length/\i<8):=λh=>X (h9 h.1 aD);have K:i=min d.h.length 8:=aD;have D:∀ x∈Dj t.h.length d.h i,0<=x/\x<t.h.length:=λx hx=>VH E hx;obtain ⟨g,C⟩:=gA (Dj t.h.length d.h i);rw [C] at F D;have Y:=xa2 @Dr5.c.eq_1 hl N (xb0 E2 y (bL s) w (bL p) u (bL m) v (bL o) F b1 C);refine wv (h:=lB (Ghosts.step (Ghosts.refl _) c 0 1 134 3 _ _ ((by simp [Y]:AHeap.get _ _=some ⟨51,2,[[.own a i,.nil]],false⟩)) rfl rfl rfl) (λk e H=>∃ b:Nat,∃ l:List Edge,(e 3=.adr t.c/\e 4=.adr d.c/\e 2=.bool true/\e 6=.ptr 0 1 0 0/\e 9=.ptr c 1 0 0/\e 11=dI k)/\(H.get 0=some ⟨51,2,[[.nil,.nil]],false⟩)/\(0<H.next)/\(H.get c=some ⟨51,2,[[.own a i,.own b l.length]],false⟩)/\(c<H.next)/\(H.get a=some ⟨3,1,g.map cI,false⟩)/\(a<H.next)/\(H.get b=some ⟨134,3,l.map Edge.c,false⟩)/\(b<H.next)/\(k<=10)/\(k<=d.i.length)/\(0<c/\c<a/\a<b)/\(l=MU t g d.i k)/\(t.i.length=0->k=0)/\(l.length<=k)) (λk=>10 - k) 0 ⟨H.next,([]),wg,wn,wn,wn,wn,wn,wn,wn,wn,wi,wi,aD,(by rfl),(by intro _;rfl),dB⟩ λI4 a2 k e H b8=>?_);obtain ⟨b,l,E4,a9,T,a5,O,a7,R,a6,P,hk,d1,hb,hy,hz,c8⟩:=b8;have c4:=xa4 (cY (aD:b≠a)) (cY (aD:b≠c)) (cY (aD:b≠0)) (cY (aD:a≠c)) (cY (aD:a≠0)) (cY (aD:c≠0));have Y:=xa9 Y E4 a9 (bL T) a5 (bL O) a7 (bL R) a6 (bL P) c4;refine i7 (λL=>?_) λL=>?_
   .have hkl:k<d.i.length:=aD;have a3:0<t.i.length:=aD;have c5:t.i≠[]:=by intro h;rw [h] at a3;simp at a3
    obtain ⟨x,hx⟩:=gA (d.i[k]);have c1:d.i[k]?.getD (0,0,0)=x:=by rw [aA hkl,<- hx];rfl
    have b4:=j6 x.1;have d0:=j6 x.2.1;have c9:=j6 x.2.2;have z:=dY (aD:0<=(x.1.toNat:Int)) (aD:(0:Int)<t.i.length);obtain ⟨q,B⟩:∃ q:Nat,(x.1.toNat:Int).tmod t.i.length=(q:Int):=⟨_,(Int.toNat_of_nonneg z.1).symm⟩;have A:q<t.i.length:=aD;have a1:Tk t ((x.1.toNat:Int).tmod t.i.length)=t.i[q]:=by unfold Tk;rw [B,Int.toNat_natCast,aA A];rfl
    have f:=M.aj.aU _ (aC A);simp only [insideF,aN,decide_eq_true_eq] at f;have j:(t.i.length:Int)≠0:=aD;have Y:=xa8 Y L (aA hkl) hx c1 @cT3.eq_1 B (aA A) j @Types.c.eq_1;refine wp (h:=?_);refine kO (Fv t M.aj ⟨g,l⟩ (by simp only;omega) D t.i[q].w f.1.1) (by simp [go_sem,Y,Graph.d,Graph.c,dLI]) (by simp [go_sem]) (FR _) rfl (by simp [go_sem]) ?_;refine wp (h:=?_);refine kO (Fv t M.aj ⟨g,l⟩ (by simp only;omega) D t.i[q].M f.2.1) (by simp [go_sem,Y,Graph.d,Graph.c,dLI]) (by simp [go_sem]) (FR _) rfl (by simp [go_sem]) ?_;obtain ⟨W,J⟩:=gA (wK t g t.i[q].w);obtain ⟨V,I⟩:=gA (wK t g t.i[q].M);have Y:=xa1 Y J I;refine i7 (λa4=>?_) λa4=>?_
    .have hab:0<W.length/\0<V.length:=aD;obtain ⟨ka,b6⟩:=Ao hab.1 x.2.1;obtain ⟨kb,b5⟩:=Ao hab.2 x.2.2;have ta:=dY (aD:0<=(x.2.1.toNat:Int)) (aD:(0:Int)<W.length);have tb:=dY (aD:0<=(x.2.2.toNat:Int)) (aD:(0:Int)<V.length);have G:Is t g x=[⟨(q:Int),BE W x.2.1,BE V x.2.2⟩]:=by unfold Is;rw [a1,J,I,if_pos hab,B]
     have c7:¬W=[]:=by intro h;rw [h] at hab;simp at hab
     have c6:¬V=[]:=by intro h;rw [h] at hab;simp at hab
     have b3:(W.length:Int)≠0:=aD;have b2:(V.length:Int)≠0:=aD;have Y:=xa6 Y (aA ka) (aA kb) G b6 b5 b3 b2;exact wp (h:=wx a2 (k+1) ⟨b,(l++Is t g (d.i[k]?.getD (0,0,0))),wg,wn,wn,wn,wn,wn,wn,wn,wn,wj,wj,aD,(by rw [Ez,<- hy]),aD,(by rw [aH];have:=Ir t g (d.i[k]?.getD (0,0,0));omega)⟩)
    .have G:Is t g x=[]:=by unfold Is;rw [a1,J,I,if_neg (λh=>by have h2:=a4 h.1;rw [h2] at h;simp at h)]
     have Y:=wa Y G;exact wp (h:=wx a2 (k+1) ⟨b,(l++Is t g (d.i[k]?.getD (0,0,0))),wg,wn,wn,wn,wn,wn,wn,wn,wn,wj,wj,aD,(by rw [Ez,<- hy]),aD,(by rw [aH];have:=Ir t g (d.i[k]?.getD (0,0,0));omega)⟩)
   .have h13':k<d.i.length->k<10->t.i.length=0:=λa b=>by rw [L a aD];rfl
    have a0:nC t d=⟨g,l⟩:=by
     unfold nC;rw [<- K,C];split
     .rename_i h0;have:=hz h0;subst this;rw [hy];rfl
     .rename_i hn0;rw [hy,show k=min d.i.length 10 by
       have B:¬ (k<d.i.length/\k<10):=λB=>hn0 (h13' B.1 B.2);omega]
    exact wv (h:=hQ _ _ (by simp [go_sem,Y,a0]))
structure Dr21 where
 j:Dr5
 l:List B3
 G:List T4
def Dr21.c (d:Dr21):UN:=[.list (d.j.h.map cU),.list (d.j.i.map cT3),.list (d.l.map cT3),.list (d.G.map cT4)]
@[go_sem] theorem Dr21.P (d:Dr21):D.L d.c=true:=by simp [Dr21.c,D.L,D.P,Nm,DR,S1]
def c2 (x:Nat × Nat):UN:=[dI x.1,dI x.2]
def atN (t:Types)(ns:W3)(i:Nat):List Attr:=bI t (ns[i]?.getD 0)
def Ky (t:Types)(ns:W3)(i k:Nat):List (Nat × Nat):=(List.range k).map λj=>(i,j)
def Cx (t:Types)(ns:W3)(k:Nat):List (Nat × Nat):=(List.range k).flatMap λi=>Ky t ns i (atN t ns i).length
theorem UG (t:Types)(ns:W3):Cx t ns 0=[]:=rfl
theorem EZ (t:Types)(ns:W3)(k:Nat):Cx t ns (k+1)=Cx t ns k++Ky t ns k (atN t ns k).length:=by simp [Cx,bS]
theorem UD (t:Types)(ns:W3)(i k:Nat):Ky t ns i (k+1)=Ky t ns i k++[(i,k)]:=by simp [Ky,bS]
theorem DU (t:Types)(ns:W3)(i k:Nat):(Ky t ns i k).length=k:=by simp [Ky]
theorem Jz (t:Types)(ht:t.a8)(ns:W3):∀ k,(Cx t ns k).length<=8 * k
 | 0=>by simp [Cx]
 | k+1=>by rw [EZ,aH,DU];have:=Jz t ht ns k;have:=(ht.bu (ns[k]?.getD 0)).2;unfold atN;omega
def vG (all:List (Nat × Nat))(b:UInt8):Nat × Nat:=all[((b.toNat:Int).tmod all.length).toNat]?.getD (0,0)
def VG (all:List (Nat × Nat))(st:List Slot × Int)(x:B3):List Slot × Int :=
 if st.2<=(x.2.1.toNat:Int).tmod 5 - 1 then
  if 3<st.2+1 then (st.1++[⟨(vG all x.1).1,(vG all x.1).2,⟨0,0⟩⟩],3) else (st.1++[⟨(vG all x.1).1,(vG all x.1).2,⟨st.2,0⟩⟩],st.2+1)
 else (st.1++[⟨(vG all x.1).1,(vG all x.1).2,⟨(x.2.1.toNat:Int).tmod 5 - 1,(x.2.2.toNat:Int).tmod 5 - 2⟩⟩],st.2)
def Ey (all:List (Nat × Nat))(ds:List B3)(k:Nat):List Slot × Int:=(List.range k).foldl (λst i=>VG all st (ds[i]?.getD (0,0,0))) ([],0)
theorem Lx (all:List (Nat × Nat))(ds:List B3)(k:Nat):Ey all ds (k+1)=VG all (Ey all ds k) (ds[k]?.getD (0,0,0)):=by simp [Ey,bS]
theorem GT (all:List (Nat × Nat))(ds:List B3):∀ k,(Ey all ds k).1.length=k/\0<=(Ey all ds k).2/\(Ey all ds k).2<=3
 | 0=>by simp [Ey]
 | k+1=>by
  obtain ⟨h1,h2,h3⟩:=GT all ds k;rw [Lx];unfold VG;split
  .split
   .simp only [aH,mV];omega
   .simp only [aH,mV];omega
  .simp only [aH,mV];omega
def MT (v:Int)(ts:List T4)(k:Nat):List Test:=(List.range k).map λi=>made3 v (ts[i]?.getD (0,0,0,0))
theorem Uc (v:Int)(ts:List T4)(k:Nat):MT v ts (k+1)=MT v ts k++[made3 v (ts[k]?.getD (0,0,0,0))]:=by simp [MT,bS]
theorem Pm (v:Int)(ts:List T4)(k:Nat):(MT v ts k).length=k:=by simp [MT]
def S6 (t:Types)(d:Dr21):List (Nat × Nat):=Cx t (nC t d.j).h (nC t d.j).h.length
def uX (t:Types)(d:Dr21):List Slot × Int:=if (S6 t d).length=0 then ([],0) else Ey (S6 t d) d.l (min d.l.length 4)
def kC (t:Types)(d:Dr21):Pattern:=⟨nC t d.j,(uX t d).1,(uX t d).2,MT (uX t d).2 d.G (min d.G.length 3)⟩
theorem Q3 (t:Types)(ht:t.a8)(d:Dr21):Pua 37 [t.d,.agg d.c] (kC t d).d:=by
 obtain ⟨G,hG⟩:=gA (nC t d.j);have hGl:=Iq t d.j;rw [hG] at hGl;refine Tz.pK ⟨λt=>t==4||t==5||t==6||t==12||t==13||t==14,λr=>match r with|27=>[(0,10),(1,10)]|_=>[]⟩ func37 rfl (λQ hQ=>?_);have Y:=wa @Dr21.c.eq_1 @UG;refine wv (h:=aB ((by have hq:=Q6 t ht d.j;rw [hG] at hq;exact hq)) wl ?_);refine wv (h:=aY (λi e H=>(e 2=.adr t.c/\e 3=.adr d.c/\e 5=.ptr 1 1 0 0/\e 4=.ptr 0 1 0 0/\e 6=.own 2 (Cx t G.h i).length/\e 7=dI i)/\(H.get 0=some ⟨55,5,[[.nil,.nil,.nil,dI 0,.nil]],false⟩)/\(0<H.next)/\(H.get 1=some ⟨55,5,[[dLI G.h,.list (G.i.map Edge.c),.nil,dI 0,.nil]],false⟩)/\(1<H.next)/\(H.get 2=some ⟨156,2,(Cx t G.h i).map c2,false⟩)/\(2<H.next)/\(i<=G.h.length)) (λi=>G.h.length - i) 0 ⟨wg,wn,wn,wn,wn,(by simp [go_sem,Cx]),wn,wi⟩ λI0 hI0 i e H hi0=>?_);obtain ⟨E0,g0_0,n0_0,g1_0,n1_0,g2_0,n2_0,hi⟩:=hi0;have Y:=xa6 Y E0 g0_0 (bL n0_0) g1_0 (bL n1_0) g2_0 (bL n2_0);refine i7 (λh4=>?_) λh4=>?_
 .have hAl:=(ht.bu G.h[i]).2;have hAN:atN t G.h i=bI t G.h[i]:=by simp [atN,aA h4]
  have hal:=Jz t ht G.h i;have Y:=xa1 Y h4 (aA h4);refine wp (h:=aI (l7 t ht.ok G.h[i]) wl ?_);refine wp (h:=aY (λk e H=>(e 2=.adr t.c/\e 3=.adr d.c/\e 5=.ptr 1 1 0 0/\e 4=.ptr 0 1 0 0/\e 6=.own 2 ((Cx t G.h i).length+k)/\e 7=dI i/\e 8=.list ((bI t G.h[i]).map Attr.c)/\e 10=dI k)/\(H.get 0=some ⟨55,5,[[.nil,.nil,.nil,dI 0,.nil]],false⟩)/\(0<H.next)/\(H.get 1=some ⟨55,5,[[dLI G.h,.list (G.i.map Edge.c),.nil,dI 0,.nil]],false⟩)/\(1<H.next)/\(H.get 2=some ⟨156,2,(Cx t G.h i).map c2++(Ky t G.h i k).map c2,false⟩)/\(2<H.next)/\(k<=(bI t G.h[i]).length)/\((Ky t G.h i k).length=k)) (λk=>(bI t G.h[i]).length - k) 0 ⟨wg,wn,wn,wn,wn,(by simp [go_sem,Y,Ky]),wn,wi,(DU _ _ _ _)⟩ λI2 hI2 k e H hi2=>?_);obtain ⟨E2,g0_2,n0_2,g1_2,n1_2,g2_2,n2_2,hk,hrl⟩:=hi2;have Y:=xa7 Y E2 g0_2 (bL n0_2) g1_2 (bL n1_2) g2_2 (bL n2_2) hrl;refine i7 (λh8=>?_) λh8=>?_
  .have Y:=wa Y h8;exact wp (h:=wx hI2 (k+1) ⟨wg,wn,wn,wn,wn,(by simp [go_sem,UD,c2]),wn,wj,(DU _ _ _ _)⟩)
  .have hK:k=(bI t G.h[i]).length:=aD;have hAt:(Cx t G.h (i+1)).length=(Cx t G.h i).length+k:=by rw [EZ,aH,DU,hAN,hK]
   subst hK;exact wp (h:=wx hI0 (i+1) ⟨wg,wn,wn,wn,wn,(by simp [go_sem,Y,EZ,hAN]),wn,wj⟩)
 .have hI:i=G.h.length:=aD;obtain ⟨all,hall⟩:=gA (Cx t G.h i);have hal:=Jz t ht G.h i;rw [hall] at hal;have Y:=wa Y hall;refine wv (h:=lB (Ghosts.step (Ghosts.refl _) 1 0 2 96 4 _ _ (g1_0) rfl rfl rfl) (λn e H=>∃ j:Nat,∃ sl:List Slot,∃ v:Int,(e 2=.adr t.c/\e 3=.adr d.c/\e 5=.ptr 1 1 0 0/\e 4=.ptr 0 1 0 0/\e 6=.own 2 all.length/\e 11=dI n)/\(H.get 0=some ⟨55,5,[[.nil,.nil,.nil,dI 0,.nil]],false⟩)/\(0<H.next)/\(H.get 1=some ⟨55,5,[[dLI G.h,.list (G.i.map Edge.c),.own j sl.length,dI v,.nil]],false⟩)/\(1<H.next)/\(H.get 2=some ⟨156,2,all.map c2,false⟩)/\(2<H.next)/\(H.get j=some ⟨96,4,sl.map Slot.c,false⟩)/\(j<H.next)/\(n<=4)/\(n<=d.l.length)/\((sl,v)=Ey all d.l n)/\(all.length=0->n=0)/\(2<j)) (λn=>4 - n) 0 ⟨H.next,([]),0,wg,wn,wn,wn,wn,wn,wn,wn,wn,wi,wi,(by rfl),(by intro _;rfl),aD⟩ λI4 hI4 n e H hi4=>?_);obtain ⟨j,sl,v,E4,g0_4,n0_4,g1_4,n1_4,g2_4,n2_4,gj_4,nj_4,hn,hnd,hst,hz,hj2⟩:=hi4;have di1:=xa4 (cY (aD:j≠2)) (cY (aD:j≠1)) (cY (aD:j≠0)) (cY (aD:2≠1)) (cY (aD:2≠0)) (cY (aD:1≠0));have Y:=xa9 Y E4 g0_4 (bL n0_4) g1_4 (bL n1_4) g2_4 (bL n2_4) gj_4 (bL nj_4) di1;refine i7 (λh12=>?_) λh12=>?_
  .have hnl:n<d.l.length:=aD;have ha0:0<all.length:=aD;have hann:¬all=[]:=by intro h;rw [h] at ha0;simp at ha0
   obtain ⟨x,hx⟩:=gA (d.l[n]);have hgx:d.l[n]?.getD (0,0,0)=x:=by rw [aA hnl,<- hx];rfl
   have hx1:=j6 x.1;have hx2:=j6 x.2.1;have hx3:=j6 x.2.2;have hin:=GT all d.l n;rw [<- hst] at hin;simp only at hin;have tm:=dY (aD:0<=(x.1.toNat:Int)) (aD:(0:Int)<all.length);have t2:=dY (aD:0<=(x.2.1.toNat:Int)) (aD:(0:Int)<5);have t3:=dY (aD:0<=(x.2.2.toNat:Int)) (aD:(0:Int)<5);have hal2:((x.1.toNat:Int).tmod all.length).toNat<all.length:=aD;have hat:all[((x.1.toNat:Int).tmod all.length).toNat]=vG all x.1:=by unfold vG;rw [aA hal2];rfl
   have hne0:(all.length:Int)≠0:=aD;have hs1:Ey all d.l (n+1)=VG all (sl,v) x:=by rw [Lx,hgx,<- hst]
   unfold VG at hs1;have nx:=Qr H.next;have Y:=xa8 Y h12 (aA hnl) hx @cT3.eq_1 (aA hal2) hat hne0 @c2.eq_1 nx;refine i7 (λh17=>?_) λh17=>?_
   .rw [if_pos (by simp only;omega)] at hs1;refine i7 (λh20=>?_) λh20=>?_
    .rw [if_pos (by simp only;omega)] at hs1;obtain ⟨sl',hsl'⟩:∃ y:List Slot,y=sl++[⟨(vG all x.1).1,(vG all x.1).2,⟨0,0⟩⟩]:=⟨_,rfl⟩;obtain ⟨v',hv'⟩:∃ y:Int,y=3:=⟨_,rfl⟩;have hst':(sl',v')=Ey all d.l (n+1):=by rw [hs1,hsl',hv']
     have Y:=xa1 Y hsl' hv';exact wp (h:=wx hI4 (n+1) ⟨j,sl',v',wg,wn,wn,wn,wn,wn,wn,wn,wn,wj,wj,(hst'),aD,aD⟩)
    .rw [if_neg (by simp only;omega)] at hs1;obtain ⟨sl',hsl'⟩:∃ y:List Slot,y=sl++[⟨(vG all x.1).1,(vG all x.1).2,⟨v,0⟩⟩]:=⟨_,rfl⟩;obtain ⟨v',hv'⟩:∃ y:Int,y=v+1:=⟨_,rfl⟩;have hst':(sl',v')=Ey all d.l (n+1):=by rw [hs1,hsl',hv']
     have Y:=xa1 Y hsl' hv';exact wp (h:=wx hI4 (n+1) ⟨j,sl',v',wg,wn,wn,wn,wn,wn,wn,wn,wn,wj,wj,(hst'),aD,aD⟩)
   .rw [if_neg (by simp only;omega)] at hs1;have h3v:¬ (3:Int)<v:=aD;obtain ⟨sl',hsl'⟩:∃ y:List Slot,y=sl++[⟨(vG all x.1).1,(vG all x.1).2,⟨(x.2.1.toNat:Int).tmod 5 - 1,(x.2.2.toNat:Int).tmod 5 - 2⟩⟩]:=⟨_,rfl⟩;obtain ⟨v',hv'⟩:∃ y:Int,y=v:=⟨_,rfl⟩;have hst':(sl',v')=Ey all d.l (n+1):=by rw [hs1,hsl',hv']
    have Y:=xa2 Y hsl' hv' h3v;exact wp (h:=wx hI4 (n+1) ⟨j,sl',v',wg,wn,wn,wn,wn,wn,wn,wn,wn,wj,wj,(hst'),aD,aD⟩)
  .have hin:=GT all d.l n;rw [<- hst] at hin;simp only at hin;have hv3:0<=v/\v<=1000:=aD;have hS:uX t d=(sl,v):=by
    unfold uX S6;rw [hG,<- hI,hall,hst];split
    .rename_i h0;rw [hz h0];rfl
    .rename_i h0;have hq:¬ (n<d.l.length/\n<4):=λh=>h0 (by rw [h12 h.1 aD];rfl);rw [(aD:n=min d.l.length 4)]
   refine wv (h:=lB (Ghosts.step (Ghosts.refl _) 1 0 4 158 5 _ _ (g1_4) rfl rfl rfl) (λm e H=>∃ q:Nat,(e 2=.adr t.c/\e 3=.adr d.c/\e 5=.ptr 1 1 0 0/\e 4=.ptr 0 1 0 0/\e 15=dI m)/\(H.get 0=some ⟨55,5,[[.nil,.nil,.nil,dI 0,.nil]],false⟩)/\(0<H.next)/\(H.get 1=some ⟨55,5,[[dLI G.h,.list (G.i.map Edge.c),.own j sl.length,dI v,.own q m]],false⟩)/\(1<H.next)/\(H.get j=some ⟨96,4,sl.map Slot.c,false⟩)/\(j<H.next)/\(H.get q=some ⟨158,5,(MT v d.G m).map Test.c,false⟩)/\(q<H.next)/\(m<=3)/\(m<=d.G.length)/\(1<j/\j<q)/\((MT v d.G m).length=m)) (λm=>3 - m) 0 ⟨H.next,wg,wn,wn,wn,wn,wn,wn,(by simp [go_sem,Y,MT]),wn,wi,wi,aD,(Pm _ _ _)⟩ λI6 hI6 m e H hi6=>?_);obtain ⟨q,E6,g0_6,n0_6,g1_6,n1_6,gj_6,nj_6,gq_6,nq_6,hm,hmd,hjq,htl⟩:=hi6;have di2:=xa4 (cY (aD:q≠j)) (cY (aD:q≠1)) (cY (aD:q≠0)) (cY (aD:j≠1)) (cY (aD:j≠0)) (cY (aD:1≠0));have Y:=xb0 Y E6 g0_6 (bL n0_6) g1_6 (bL n1_6) gj_6 (bL nj_6) gq_6 (bL nq_6) htl di2;refine i7 (λh25=>?_) λh25=>?_
   .have hml:m<d.G.length:=aD;have hgt:d.G[m]?.getD (0,0,0,0)=d.G[m]:=by rw [aA hml];rfl
    have Y:=xa2 Y h25 (aA hml) @cT4.eq_1;refine wp (h:=aI (Rd v hv3 d.G[m]) wl ?_);exact wp (h:=wx hI6 (m+1) ⟨q,wg,wn,wn,wn,wn,wn,wn,(by simp [go_sem,Y,Uc]),wn,wj,wj,aD,(Pm _ _ _)⟩)
   .have hM:m=min d.G.length 3:=aD;exact wv (h:=hQ _ _ (by simp [go_sem,Y,kC,hG,hS,<- hM]))
abbrev B4:=UInt8 × UInt8 × UInt8 × UInt8
def cU4 (x:B4):UN:=[.int .u8 (x.1.toNat:Int),.int .u8 (x.2.1.toNat:Int),.int .u8 (x.2.2.1.toNat:Int),.int .u8 (x.2.2.2.toNat:Int)]
structure Dr24 where
 left:Dr21
 q:UInt64
 h:List UInt8
 i:List B3
 l:List B3
 plain:Bool
 inj:Bool
 aY:B4
 aG:List UInt8
def Dr24.c (d:Dr24):UN:=[.list (d.left.j.h.map cU),.list (d.left.j.i.map cT3),.list (d.left.l.map cT3),.list (d.left.G.map cT4),.int .u64 (d.q.toNat:Int),.list (d.h.map cU),.list (d.i.map cT3),.list (d.l.map cT3),.bool d.plain,.bool d.inj,
 .int .u8 (d.aY.1.toNat:Int),.int .u8 (d.aY.2.1.toNat:Int),.int .u8 (d.aY.2.2.1.toNat:Int),.int .u8 (d.aY.2.2.2.toNat:Int),.list (d.aG.map cU)]
@[go_sem] theorem Dr24.P (d:Dr24):D.L d.c=true:=by simp [Dr24.c,D.L,D.P,Nm,DR,S1]
@[go_sem] theorem ac3 (l:List Dr24):D.O (l.map Dr24.c)=true:=dN _ Dr24.P l
def mkEd (t:Types)(n:Nat)(x:B3):Edge:=⟨(x.1.toNat:Int).tmod t.i.length,(x.2.1.toNat:Int).tmod n,(x.2.2.toNat:Int).tmod n⟩
def nN (ns:W3)(a:Int):Int:=ns[a.toNat]?.getD 0
def UR (t:Types)(base:W3)(ds:List UInt8)(k:Nat):W3:=base++(List.range k).map λi=>BE (sG t) (ds[i]?.getD 0)
def Bh (t:Types)(ns:W3)(x:B3):List Edge:=if o6 t (mkEd t ns.length x).type (nN ns (mkEd t ns.length x).w) (nN ns (mkEd t ns.length x).M)=true then [mkEd t ns.length x] else []
def US (t:Types)(ns:W3)(base:List Edge)(es:List B3)(k:Nat):List Edge:=base++(List.range k).flatMap λi=>Bh t ns (es[i]?.getD (0,0,0))
def uB (t:Types)(g:Graph)(d:Dr24):Graph :=
 ⟨UR t g.h d.h (if (sG t).length=0 then 0 else min d.h.length 2),
  US t (UR t g.h d.h (if (sG t).length=0 then 0 else min d.h.length 2)) g.i d.i (if (UR t g.h d.h (if (sG t).length=0 then 0 else min d.h.length 2)).length=0\/t.i.length=0 then 0 else min d.i.length 2)⟩
theorem VZ (t:Types)(base:W3)(ds:List UInt8)(k:Nat):UR t base ds (k+1)=UR t base ds k++[BE (sG t) (ds[k]?.getD 0)]:=by simp [UR,bS]
theorem GX (t:Types)(base:W3)(ds:List UInt8)(k:Nat):(UR t base ds k).length=base.length+k:=by simp [UR]
theorem AA (t:Types)(ns:W3)(base:List Edge)(es:List B3)(k:Nat):US t ns base es (k+1)=US t ns base es k++Bh t ns (es[k]?.getD (0,0,0)):=by simp [US,bS]
theorem AB (t:Types)(ns:W3)(x:B3):(Bh t ns x).length<=1:=by grind [Bh]
theorem SL (t:Types)(ns:W3)(base:List Edge)(es:List B3):∀ k,(US t ns base es k).length<=base.length+k
 | 0=>by simp [US]
 | k+1=>by rw [AA,aH];have:=SL t ns base es k;have:=AB t ns (es[k]?.getD (0,0,0));omega
theorem SB (c:Prop)[Decidable c](m:Nat):(if c then 0 else min m 2)<=2:=by split<;>omega
theorem Oz (t:Types)(ht:t.a8)(g:Graph)(hgn:g.h.length<=1000)(hge:g.i.length<=1000)(d:Dr24):Pua 40 [t.d,g.d,.agg d.c] (uB t g d).d:=by
 have hfN:=ht.ok.aT;have hfE:=ht.ok.bI;obtain ⟨C,hC⟩:=gA (sG t);refine Tz.pK ⟨λt=>t==6||t==7||t==12,λr=>match r with|6=>[(0,14),(1,14)]|11=>[(0,30),(1,30),(3,30),(4,30),(5,30),(7,30),(8,30),(9,30),(11,30),(12,30),(14,30),(15,30),(16,30),(20,30),(21,30),(23,30),(24,30),(25,30)]|_=>[]⟩ func40 rfl (λQ hQ=>?_);have Y:=@Dr24.c.eq_1;refine wv (h:=?_);unfold fE;refine oD g aD aD _ _ (λa b H1 ha hb hab han hbn hga hgb hfr hnn=>?_);have h0n:(0:Nat)<H1.next:=aD;have ha0:a≠0:=by simp [go_sem] at ha;omega
 have hb0:b≠0:=by simp [go_sem] at hb;omega
 have hg0:=hfr 0 (by simp [go_sem]);simp [go_sem] at hg0;have nx:=Qr H1.next;have fr1:=xa1 (bL (aD:a<H1.next)) (bL (aD:b<H1.next)) (bL (aD:0<H1.next));have di2:=xa1 (cY (aD:0≠b)) (cY (aD:0≠a)) (cY (aD:b≠a));have Y:=xa5 Y fr1 di2 hga hgb hg0 nx;refine wv (h:=aB ((by have hq:=HO t aD;rw [hC] at hq;exact hq)) wl ?_);refine wv (h:=aY (λi e H=>∃ c:Nat,(e 3=.adr t.c/\e 4=.adr g.c/\e 5=.adr d.c/\e 6=.ptr 0 1 0 0/\e 7=.ptr c 1 0 0/\e 8=dLI C/\e 9=dI i)/\(H.get 0=some ⟨51,2,[[.nil,.nil]],false⟩)/\(0<H.next)/\(H.get c=some ⟨51,2,[[.own a (g.h.length+i),.own b g.i.length]],false⟩)/\(c<H.next)/\(H.get a=some ⟨3,1,(UR t g.h d.h i).map cI,false⟩)/\(a<H.next)/\(H.get b=some ⟨134,3,g.i.map Edge.c,false⟩)/\(b<H.next)/\(i<=2)/\(i<=d.h.length)/\(C.length=0->i=0)/\(a<c/\b<c/\0<c)/\((UR t g.h d.h i).length=g.h.length+i)) (λi=>2 - i) 0 ⟨H1.next,wg,wn,wn,wn,wn,(by simp [go_sem,Y,UR]),wn,wn,wn,wi,wi,(by intro _;rfl),aD,(GX _ _ _ _)⟩ λI0 hI0 i e H hi0=>?_);obtain ⟨c,E0,g0_0,n0_0,gc_0,nc_0,ga_0,na_0,gb_0,nb_0,hi,hid,hz,hc,hrl⟩:=hi0;have di3:=xa4 (cY (aD:0≠c)) (cY (aD:0≠b)) (cY (aD:0≠a)) (cY (aD:c≠b)) (cY (aD:c≠a)) (cY (aD:b≠a));have Y:=xa0 Y (xb0 @Dr24.c.eq_1 E0 g0_0 (bL n0_0) gc_0 (bL nc_0) ga_0 (bL na_0) gb_0 (bL nb_0) hrl di3);refine i7 (λh4=>?_) λh4=>?_
 .have hil:i<d.h.length:=aD;have hC0:0<C.length:=aD;have hCn:¬C=[]:=by intro h;rw [h] at hC0;simp at hC0
  have hx1:=j6 d.h[i];have hgd:d.h[i]?.getD 0=d.h[i]:=by rw [aA hil];rfl
  have tm:=dY (aD:0<=(d.h[i].toNat:Int)) (aD:(0:Int)<C.length);obtain ⟨kk,hpk⟩:=Ao hC0 d.h[i];have hne0:(C.length:Int)≠0:=aD;have Y:=xa4 Y h4 (aA hil) (aA kk) hne0 @cU.eq_1;exact wp (h:=wx hI0 (i+1) ⟨c,wg,wn,wn,wn,wn,(by simp [go_sem,Y,VZ,hC,hpk]),wn,wn,wn,wj,wj,aD,aD,(GX _ _ _ _)⟩)
 .have hI:i=(if C.length=0 then 0 else min d.h.length 2):=by
   split
   .rename_i h;exact hz h
   .rename_i h;have hq:¬ (i<d.h.length/\i<2):=λhh=>h (by rw [h4 hh.1 aD];rfl);omega
  obtain ⟨ns,hns⟩:=gA (UR t g.h d.h i);have hnl:ns.length=g.h.length+i:=by rw [<- hns];exact hrl
  clear hrl;have hrl:g.h.length+i=ns.length:=hnl.symm;have hnl1:g.h.length+i=ns.length:=hnl.symm;have hnl2:(g.h.length:Int)+(i:Int)=(ns.length:Int):=aD;have Y:=xa3 Y hrl hns hnl1 hnl2;refine wp (h:=aY (λk e H=>∃ ys:List Edge,(e 3=.adr t.c/\e 4=.adr g.c/\e 5=.adr d.c/\e 6=.ptr 0 1 0 0/\e 7=.ptr c 1 0 0/\e 10=dI ns.length/\e 11=dI k)/\(H.get 0=some ⟨51,2,[[.nil,.nil]],false⟩)/\(0<H.next)/\(H.get c=some ⟨51,2,[[.own a ns.length,.own b ys.length]],false⟩)/\(c<H.next)/\(H.get a=some ⟨3,1,ns.map cI,false⟩)/\(a<H.next)/\(H.get b=some ⟨134,3,ys.map Edge.c,false⟩)/\(b<H.next)/\(k<=2)/\(k<=d.i.length)/\(ns.length=0\/t.i.length=0->k=0)/\(a<c/\b<c/\0<c)/\(ys=US t ns g.i d.i k)/\(ys.length<=g.i.length+k)) (λk=>2 - k) 0 ⟨g.i,wg,wn,wn,wn,wn,wn,wn,wn,wn,wi,wi,(by intro _;rfl),aD,(by simp [US]),aD⟩ λI2 hI2 k e H hi2=>?_);obtain ⟨ys,E2,g0_2,n0_2,gc_2,nc_2,ga_2,na_2,gb_2,nb_2,hk,hkd,hzz,hc2,hy,hyl⟩:=hi2;have di4:=xa4 (cY (aD:0≠c)) (cY (aD:0≠b)) (cY (aD:0≠a)) (cY (aD:c≠b)) (cY (aD:c≠a)) (cY (aD:b≠a));have Y:=xa9 Y E2 g0_2 (bL n0_2) gc_2 (bL nc_2) ga_2 (bL na_2) gb_2 (bL nb_2) di4;refine i7 (λh9=>?_) λh9=>?_
  .have hkl:k<d.i.length:=aD;have hE0:0<t.i.length:=aD;have hn0:0<ns.length:=aD;have hee0:¬t.i=[]:=by intro h;rw [h] at hE0;simp at hE0
   have hnn0:¬ns=[]:=by intro h;rw [h] at hn0;simp at hn0
   obtain ⟨x,hx⟩:=gA (d.i[k]);have hgx:d.i[k]?.getD (0,0,0)=x:=by rw [aA hkl,<- hx];rfl
   have hx1:=j6 x.1;have hx2:=j6 x.2.1;have hx3:=j6 x.2.2;have t1:=dY (aD:0<=(x.1.toNat:Int)) (aD:(0:Int)<t.i.length);have t2:=dY (aD:0<=(x.2.1.toNat:Int)) (aD:(0:Int)<ns.length);have t3:=dY (aD:0<=(x.2.2.toNat:Int)) (aD:(0:Int)<ns.length);have hf:((x.2.1.toNat:Int).tmod ns.length).toNat<ns.length:=aD;have hto:((x.2.2.toNat:Int).tmod ns.length).toNat<ns.length:=aD;have hne0:(t.i.length:Int)≠0:=aD;have hne1:(ns.length:Int)≠0:=aD;have nx2:=Qr H.next;have Y:=xa9 Y h9 (aA hkl) hx hgx @cT3.eq_1 (aA hf) (aA hto) hne0 hne1 nx2;refine wp (h:=aI (yJ t ht.ok _ _ _) wl ?_);refine i7 (λh12=>?_) λh12=>?_
   .have hE:Bh t ns x=[mkEd t ns.length x]:=by unfold Bh nN mkEd;rw [if_pos (by simpa [aA hf,aA hto] using h12)]
    have Y:=xa1 Y hE @mkEd.eq_1;exact wp (h:=wx hI2 (k+1) ⟨(ys++Bh t ns (d.i[k]?.getD (0,0,0))),wg,wn,wn,wn,wn,wn,wn,wn,wn,wj,wj,aD,aD,(by rw [AA,<- hy]),(by rw [aH];have:=AB t ns (d.i[k]?.getD (0,0,0));omega)⟩)
   .have hE:Bh t ns x=[]:=by unfold Bh nN mkEd;rw [if_neg (by simpa [aA hf,aA hto] using h12)]
    have Y:=wa Y hE;exact wp (h:=wx hI2 (k+1) ⟨(ys++Bh t ns (d.i[k]?.getD (0,0,0))),wg,wn,wn,wn,wn,wn,wn,wn,wn,wj,wj,aD,aD,(by rw [AA,<- hy]),(by rw [aH];have:=AB t ns (d.i[k]?.getD (0,0,0));omega)⟩)
  .have hK:k=(if ns.length=0\/t.i.length=0 then 0 else min d.i.length 2):=by
    split
    .rename_i h;exact hzz h
    .rename_i h;have hq:¬ (k<d.i.length/\k<2):=λhh=>h (.inr (by rw [h9 hh.1 aD aD];rfl));omega
   have hfin:uB t g d=⟨ns,ys⟩:=by
    unfold uB;rw [hC,<- hI,hns,<- hK,hy]
   exact wv (h:=hQ _ _ (by simp [go_sem,Y,hfin]))
def QD (vars:Int)(ns:W3)(la:Nat)(x:B3):Slot:=⟨(x.1.toNat:Int).tmod ns.length,(x.2.1.toNat:Int).tmod la,⟨((x.2.1.toNat:Int) / 16).tmod (vars+1) - 1,(x.2.2.toNat:Int).tmod 3⟩⟩
def NV (s y:Slot):Bool:=y.node==s.node&&y.J==s.J
def Tt (t:Types)(vars:Int)(ns:W3)(out:List Slot)(x:B3):List Slot :=
 if (bI t (nN ns ((x.1.toNat:Int).tmod ns.length))).length=0 then out
 else if out.any (NV (QD vars ns (bI t (nN ns ((x.1.toNat:Int).tmod ns.length))).length x))=true then out
 else out++[QD vars ns (bI t (nN ns ((x.1.toNat:Int).tmod ns.length))).length x]
def Gh (t:Types)(vars:Int)(ns:W3)(l:List B3)(k:Nat):List Slot:=(List.range k).foldl (λout i=>Tt t vars ns out (l[i]?.getD (0,0,0))) []
def CI (t:Types)(ns:W3)(vars:Int)(l:List B3):List Slot:=Gh t vars ns l (if ns.length=0 then 0 else min l.length 3)
theorem KR (t:Types)(a:Int)(ns:W3)(l:List B3)(k:Nat):Gh t a ns l (k+1)=Tt t a ns (Gh t a ns l k) (l[k]?.getD (0,0,0)):=by simp [Gh,bS]
theorem Vd (t:Types)(a:Int)(ns:W3)(b:List Slot)(x:B3):(Tt t a ns b x).length<=b.length+1:=by grind [Tt]
theorem Od (t:Types)(vars:Int)(ns:W3)(l:List B3):∀ k,(Gh t vars ns l k).length<=k
 | 0=>by simp [Gh]
 | k+1=>by rw [KR];have:=Vd t vars ns (Gh t vars ns l k) (l[k]?.getD (0,0,0));have:=Od t vars ns l k;omega
theorem Ov (t:Types)(ht:t.a8)(g:Graph)(b:Int)(hv:0<=b/\b<=1000)(l:List B3):Pua 43 [t.d,g.d,dI b,.list (l.map cT3)] (.list ((CI t g.h b l).map Slot.c)):=by
 refine Tz.pK ⟨λt=>t==9||t==14,λr=>match r with|8=>[(3,30),(4,30),(5,30),(8,30),(12,30),(13,30),(14,30),(23,30),(24,30),(25,30)]|_=>[]⟩ func43 rfl (λQ hQ=>?_);try simp [go_sem,seval]
 obtain ⟨I0,O⟩:∃ I0:Nat->eF->AHeap->Prop,∀ (i:Nat) (e:eF) (H:AHeap),I0 i e H↔(∃ j:List Slot,(e 4=.adr t.c)/\(e 5=.adr g.c)/\(e 2=dI b)/\(e 3=.list (l.map cT3))/\(e 9=.own 0 j.length)/\(e 10=dI i)/\(H.get 0=some ⟨96,4,j.map Slot.c,false⟩)/\(0<H.next)/\(i<=3)/\(i<=l.length)/\(g.h.length=0->i=0)/\(j=Gh t b g.h l i)):=⟨λi e H=>_,λ_ _ _=>Iff.rfl⟩;refine FJ I0 (λi=>3 - i) (0) ((O _ _ _).2 ⟨([]),?_,?_,?_,?_,?_,?_,?_,?_,(by first|assumption|omega|(simp [go_sem];done)|(simp_all;done)),(by first|assumption|omega|(simp [go_sem];done)|(simp_all;done)),(by intro _;rfl),(by rfl)⟩) ?_;iterate 8 (first|omega|(simp [go_sem,seval]<;>omega))
 intro i e H c2;obtain ⟨j,a9,a7,b3,b1,a5,a0,b9,b5,hi,d3,hz,ho⟩:=(O _ _ _).1 c2;have x0:=bL b5;have K:=xa6 a9 a7 b3 b1 a5 a0 b9 x0;try simp [go_sem,seval,K]
 repeat first|intro _|refine ⟨gX,?_⟩
 refine bC (λI=>?_) (λI=>?_)
 .try simp [go_sem] at I
  have D:i<l.length:=aD;have b6:0<g.h.length:=aD;have c5:¬g.h=[]:=by intro h;rw [h] at b6;simp at b6
  obtain ⟨x,L⟩:=gA (l[i]);have c3:l[i]?.getD (0,0,0)=x:=by rw [aA D,<- L];rfl
  have d2:=j6 x.1;have d1:=j6 x.2.1;have d0:=j6 x.2.2;have t1:=dY (aD:0<=(x.1.toNat:Int)) (aD:(0:Int)<g.h.length);have R:((x.1.toNat:Int).tmod g.h.length).toNat<g.h.length:=aD;have c0:nN g.h ((x.1.toNat:Int).tmod g.h.length)=g.h[((x.1.toNat:Int).tmod g.h.length).toNat]:=by unfold nN;rw [aA R];rfl
  have p:(g.h.length:Int)≠0:=aD;have b7:=Od t b g.h l i;rw [<- ho] at b7;have N:Gh t b g.h l (i+1)=Tt t b g.h j x:=by rw [KR,c3,<- ho]
  unfold Tt at N;rw [c0] at N;have V:=Qr H.next;try simp [go_sem,seval,K,I,L,cT3,aA R]
  repeat first|intro _|refine ⟨gX,?_⟩
  refine aI (l7 t ht.ok _) ((by first|rfl|(simp [go_sem];done))) ?_;try simp [go_sem,seval]
  repeat first|intro _|refine ⟨gX,?_⟩
  refine bC (λG=>?_) (λG=>?_)
  .try simp [go_sem] at G
   rw [if_pos (by rw [G];rfl)] at N;obtain ⟨o,f⟩:∃ y:List Slot,y=j:=⟨_,rfl⟩;have M:o=Gh t b g.h l (i+1):=by rw [N,f]
   try simp [go_sem,seval,K]
   repeat first|intro _|refine ⟨gX,?_⟩
   refine mI (i+1) aD ((O _ _ _).2 ⟨(o),?_,?_,?_,?_,?_,?_,?_,?_,(by first|assumption|omega|(simp [go_sem,K,I,aA D,L,cT3,aA R,p,V,f,G];done)|(simp_all<;>omega)),(by first|assumption|omega|(simp [go_sem,K,I,aA D,L,cT3,aA R,p,V,f,G];done)|(simp_all<;>omega)),aD,(M)⟩)<;>first|omega|(simp [go_sem,seval,K,f]<;>omega)
  .try simp [go_sem] at G
   rw [if_neg (λh=>G (List.length_eq_zero_iff.1 h))] at N;obtain ⟨la,C⟩:=gA ((bI t g.h[((x.1.toNat:Int).tmod g.h.length).toNat]).length);rw [C] at N;have c6:0<la:=by rw [<- C];exact gI.2 G
   have t2:=dY (aD:0<=(x.2.1.toNat:Int)) (aD:(0:Int)<la);have t3:=dY (aD:0<=(x.2.1.toNat:Int) / 16) (aD:0<b+1);have t4:=dY (aD:0<=(x.2.2.toNat:Int)) (aD:(0:Int)<3);have hu:=Rv (aD:0<=(x.2.1.toNat:Int) / 16) aD;have B:(la:Int)≠0:=aD;have z:b+1≠0:=aD;obtain ⟨s,hs⟩:=gA (QD b g.h la x);have q:s.node=(x.1.toNat:Int).tmod g.h.length:=by rw [<- hs];rfl
   have u:s.J=(x.2.1.toNat:Int).tmod la:=by rw [<- hs];rfl
   have v:s.x.N=((x.2.1.toNat:Int) / 16).tmod (b+1) - 1:=by rw [<- hs];rfl
   have w:s.x.add=(x.2.2.toNat:Int).tmod 3:=by rw [<- hs];rfl
   rw [hs] at N;try simp [go_sem,seval,K,I,L,cT3,C,z]
   repeat first|intro _|refine ⟨gX,?_⟩
   obtain ⟨I2,a2⟩:∃ I2:Nat->eF->AHeap->Prop,∀ (k:Nat) (e:eF) (H:AHeap),I2 k e H↔(∃ F:Nat,(e 4=.adr t.c)/\(e 5=.adr g.c)/\(e 2=dI b)/\(e 3=.list (l.map cT3))/\(e 9=.own 0 j.length)/\(e 10=dI i)/\(e 14=.ptr F 1 0 0)/\(e 15=.bool ((j.take k).any (NV s)))/\(e 16=dI k)/\(H.get 0=some ⟨96,4,j.map Slot.c,false⟩)/\(0<H.next)/\(H.get F=some ⟨96,4,[[dI s.node,dI s.J,dI s.x.N,dI s.x.add]],false⟩)/\(F<H.next)/\(k<=j.length)/\(0<F)):=⟨λk e H=>_,λ_ _ _=>Iff.rfl⟩;refine FJ I2 (λk=>j.length - k) (0) ((a2 _ _ _).2 ⟨(H.next+11+12+30),?_,?_,?_,?_,?_,?_,?_,?_,?_,?_,?_,(by simp [go_sem,q,u,v,w,dI]),?_,(by first|assumption|omega|(simp [go_sem,K,I,aA D,L,cT3,aA R,p,V,G,C,B,z,q,u,v,w];done)|(simp_all;done)),aD⟩) ?_;iterate 12 (first|omega|(simp [go_sem,seval,K]<;>omega))
   intro k e H c1;obtain ⟨F,a8,a6,b2,b0,a4,Z,Y,m,X,b8,b4,T,S,hk,c9⟩:=(a2 _ _ _).1 c1;have x0:=bL b4;have a3:=bL S;have J:=xb0 a8 a6 b2 b0 a4 Z Y X b8 T x0 a3;have P:=cY (aD:F≠0);try simp [go_sem,seval,J]
   repeat first|intro _|refine ⟨gX,?_⟩
   refine bC (λA=>?_) (λA=>?_)
   .try simp [go_sem] at A
    have a1:(j.take (k+1)).any (NV s)=((j.take k).any (NV s)||(decide (j[k].node=(x.1.toNat:Int).tmod g.h.length)&&j[k].J==(x.2.1.toNat:Int).tmod la)):=by
     rw [aE A,wQ,List.any_cons,List.any_nil,pC,<- q,<- u];rfl
    obtain ⟨bb,c4⟩:=gA ((j.take k).any (NV s));rw [c4] at m a1;try simp [go_sem,seval,q,u,v,w,J,m,A]
    repeat first|intro _|refine ⟨gX,?_⟩
    refine mI (k+1) aD ((a2 _ _ _).2 ⟨(F),?_,?_,?_,?_,?_,?_,?_,?_,?_,?_,?_,(by simp [go_sem,q,u,v,w,J]),?_,(by first|assumption|omega|(simp [go_sem,I,aA D,L,cT3,aA R,p,V,G,C,B,z,q,u,v,w,J,m,P,A,aA A,a1];done)|(simp_all<;>omega)),aD⟩)<;>first|omega|(simp [go_sem,seval,J,a1]<;>omega)
   .try simp [go_sem] at A
    have hK:j.take k=j:=aG aD;rw [hK] at m;try simp [go_sem,seval,m]
    repeat first|intro _|refine ⟨gX,?_⟩
    refine bC (λE=>?_) (λE=>?_)
    .try simp [go_sem] at E
     rw [if_neg (eQ E)] at N;obtain ⟨o,f⟩:∃ y:List Slot,y=j++[s]:=⟨_,rfl⟩;have M:o=Gh t b g.h l (i+1):=by rw [N,f]
     try simp [go_sem,seval,q,u,v,w,J]
     repeat first|intro _|refine ⟨gX,?_⟩
     refine mI (i+1) aD ((O _ _ _).2 ⟨(o),?_,?_,?_,?_,?_,?_,?_,?_,(by first|assumption|omega|(simp [go_sem,I,aA D,L,cT3,aA R,p,V,G,C,B,z,q,u,v,w,J,m,P,hK,f,A,E];done)|(simp_all<;>omega)),(by first|assumption|omega|(simp [go_sem,I,aA D,L,cT3,aA R,p,V,G,C,B,z,q,u,v,w,J,m,P,hK,f,A,E];done)|(simp_all<;>omega)),aD,(M)⟩)<;>first|omega|(simp [go_sem,seval,q,u,v,w,J,f]<;>omega)
    .try simp [go_sem] at E
     rw [if_pos (eQ E)] at N;obtain ⟨o,f⟩:∃ y:List Slot,y=j:=⟨_,rfl⟩;have M:o=Gh t b g.h l (i+1):=by rw [N,f]
     try simp [go_sem,seval,J]
     repeat first|intro _|refine ⟨gX,?_⟩
     refine mI (i+1) aD ((O _ _ _).2 ⟨(o),?_,?_,?_,?_,?_,?_,?_,?_,(by first|assumption|omega|(simp [go_sem,I,aA D,L,cT3,aA R,p,V,G,C,B,z,q,u,v,w,J,m,P,hK,f,A,E];done)|(simp_all<;>omega)),(by first|assumption|omega|(simp [go_sem,I,aA D,L,cT3,aA R,p,V,G,C,B,z,q,u,v,w,J,m,P,hK,f,A,E];done)|(simp_all<;>omega)),aD,(M)⟩)<;>first|omega|(simp [go_sem,seval,J,f]<;>omega)
 .try simp [go_sem] at I
  have hI:i=(if g.h.length=0 then 0 else min l.length 3):=by
   split
   .rename_i h;exact hz h
   .rename_i h;have hq:¬ (i<l.length/\i<3):=λhh=>h (by rw [I hh.1 aD];rfl);omega
  have W:CI t g.h b l=j:=by unfold CI;rw [<- hI,ho]
  try simp [go_sem,seval,K]
  exact hQ _ _ (by first|(left;(simp [go_sem,K,W]);done)|(right;(simp [go_sem,K,W]);done))
theorem d9 (l:W3):eE (l.map cI)=l.map cI:=jR λc hc=>by
 rw [aW] at hc;obtain ⟨x,_,rfl⟩:=hc;rfl
theorem pX (l:List Edge):eE (l.map Edge.c)=l.map Edge.c:=jR λc hc=>by
 rw [aW] at hc;obtain ⟨x,_,rfl⟩:=hc;rfl
def trueC:Cond:=.mk 1 [] ⟨[],[]⟩ ⟨⟨[],[]⟩,[],0,[]⟩
def C4 (r:Rule):Rule:=⟨r.name,⟨r.left.j,[],0,[]⟩,⟨r.right.j,[],0,[]⟩,r.q,r.u,r.inj,trueC⟩
theorem Oy (r:Rule)(j:r.left.j.h.length<=1000/\r.left.j.i.length<=1000)(i:r.right.j.h.length<=1000/\r.right.j.i.length<=1000)(g:r.q.h.length<=1000/\r.q.i.length<=1000)(f:r.u.h.length<=1000/\r.u.i.length<=1000):Pua 45 [r.d] (C4 r).d:=by
 refine pS (by first|rfl|(simp [go_sem];done)) (λQ b=>(Tz.cK ⟨λt=>t==2||t==15||t==20||t==26||t==31,λr=>match r with|1=>[(0,12),(1,12),(2,12),(3,12),(4,12),(5,12),(7,12),(8,12),(9,12),(10,12),(12,13),(12,14),(12,15),(0,16),(1,16),(0,17),(1,17),(2,17),(3,17),(4,17),(5,17),(7,17),(8,17),(9,17),(10,17),(12,17),(13,17),(14,17),(15,17),(16,17),(12,18),(16,18),(17,18),(12,19),(16,19),(17,19),(12,20),(16,20),(17,20),(0,21),(1,21),(0,23),(1,23),(2,23),(3,23),(4,23),(5,23),(7,23),(8,23),(9,23),(10,23),(12,23),(13,23),(14,23),(15,23),(16,23),(17,23),(18,23),(19,23),(20,23),(21,23),(12,24),(16,24),(17,24),(21,24),(23,24),(12,25),(16,25),(17,25),(21,25),(23,25),(12,26),(16,26),(17,26),(21,26),(23,26),(0,27),(1,27),(0,28),(1,28),(2,28),(3,28),(4,28),(5,28),(7,28),(8,28),(9,28),(10,28),(12,28),(13,28),(14,28),(15,28),(16,28),(17,28),(18,28),(19,28),(20,28),(21,28),(23,28),(24,28),(25,28),(26,28),(27,28),(12,29),(16,29),(17,29),(21,29),(23,29),(27,29),(28,29),(12,30),(16,30),(17,30),(21,30),(23,30),(27,30),(28,30),(12,31),(16,31),(17,31),(21,31),(23,31),(27,31),(28,31),(0,32),(1,32),(12,34),(16,34),(17,34),(21,34),(23,34),(27,34),(28,34),(32,34),(12,35),(16,35),(17,35),(21,35),(23,35),(27,35),(28,35),(32,35)]|_=>[]⟩ func45 rfl ?_));have Y:=trivial;refine wo (h:=aI (Bz r.left.j aD aD) wl ?_);refine wo (h:=aI (Bz r.right.j aD aD) wl ?_);refine wo (h:=?_);exact b _ _ (by simp [go_sem,d9,pX,C4,trueC,Rule.d,Rule.c,Cond.E,Cond.s,Cond.map,Cond.o])
end Go.Abs
end
