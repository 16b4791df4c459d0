/- Layer 49: bounds, Components. · Layer 49: the example is rig -/
import Derived.Test.YtmaibfgcngmjhaaGreatZeAG
import Derived.Test.YtmaibfgcngmjhaaGreatZeAA
import Derived.Test.YtmaibfgcngmjhaaGreatZeBC
import Derived.Test.YtmaibfgcngmjhaaGreatZeAT
import Derived.Test.YtmaibfgcngmjhaaGreatZeBB
import Derived.Test.YtmaibfgcngmjhaaGreatZeAR
import Derived.Test.YtmaibfgcngmjhaaGreatRows
set_option linter.unusedVariables false
set_option linter.unusedSimpArgs false
section
set_option maxRecDepth 100000
set_option maxHeartbeats 4000000
open Go Go.Proofs Tryz
namespace Go.Abs
def N9 (n:Nat)(a:Arr):Bool:=decide (a.from_<0)||decide ((n:Int)<=a.from_)||decide (a.L<0)||decide ((n:Int)<=a.L)
def FK (n:Nat)(l:List Arr):Int:=if 300<n\/20000<l.length then 3 else if l.any (N9 n)=true then 6 else 0
theorem CM (j:Xa1)(b:List Arr):Pua 41 [.agg [.list j,.list (b.map Arr.c)]] (dI (FK j.length b)):=by
 obtain ⟨n,s⟩:=cY (j.length);rw [<- s];refine Tz.pK ⟨λt=>t==4,λ_=>[]⟩ func41 rfl (λQ p=>?_);have Y:=wa @Arr.c.eq_1 (Eq.symm s);refine jH (λg=>?_) λg=>?_
 .have k:FK n b=3:=if_pos (by first|exact g|(simpa using g)|omega);exact wv (h:=p _ _ (eD k))
 .have hn1:¬ (300<n\/20000<b.length):=by first|exact g|(simpa using g)|omega
  have k:FK n b=if b.any (N9 n)=true then 6 else 0:=if_neg hn1
  refine wp (h:=bA (λi e H=>(e 1=.adr [.list j,.list (b.map Arr.c)]/\e 16=.list (b.map Arr.c)/\e 17=dI b.length/\e 18=dI i)/\(i<=b.length)/\((b.take i).any (N9 n)=false)) (λi=>b.length - i) 0 ⟨wg,wi,(by rfl)⟩ λw q i e H l=>?_);obtain ⟨u,v,m⟩:=l;have Y:=wa Y u;refine dD (λf=>?_) λf=>?_
  .obtain ⟨a,o⟩:=cY (b[i]);have Y:=xa2 Y f (aA f) (Eq.symm o);refine jH (λr=>?_) λr=>?_
   .have hbd:N9 n a=true:=by unfold N9;simp only [cX,decide_eq_true_eq];first|omega|(simp at r;omega)
    have d:FK n b=6:=by rw [k,if_pos];exact aZ.2 ⟨a,by rw [o];exact aC f,hbd⟩
    exact wv (h:=p _ _ (eD d))
   .have hgd:N9 n a=false:=by
     unfold N9;simp only [Ci,decide_eq_false_iff_not];first|omega|(simp at r;omega)
    exact wp (h:=wx q (i+1) ⟨wg,wj,(by rw [aD f,xV,m,<- o];simp [hgd])⟩)
  .have d:FK n b=0:=by
    rw [aH bL] at m;rw [k,m];simp
   exact wv (h:=p _ _ (eD d))
def Ey (L:Yb)(a:Nat)(x:Int):Yb:=L.set a ((L[a]?.getD [])++[x])
def aeW (n:Nat)(l:List Arr):Yb:=l.foldl (λL a=>Ey L a.from_.toNat a.L) (List.replicate n [])
def afU (n:Nat)(l:List Arr):Yb:=l.foldl (λL a=>Ey L a.L.toNat a.from_) (List.replicate n [])
def VD (F B:List Bool)(i:Nat)(o:Xa0)(k:Nat):Xa0:=if (F[k]?.getD false&&B[k]?.getD false)=true then o.set k i else o
def Eh (N B:Yb)(n:Nat)(o:Xa0)(i:Nat):Xa0:=if 0<=iA o i then o else (List.range n).foldl (VD (xD N i) (xD B i) i) o
def Mq (n:Nat)(l:List Arr):Xa0:=(List.range n).foldl (Eh (aeW n l) (afU n l) n) (List.replicate n (-1))
def Kr (N:Yb)(k:Nat):Xa0:=N[k]?.getD []
def Cv (N:Yb)(k:Nat):Nat:=(Kr N k).length
theorem Hm {N:Yb}{a:Nat}{x:Int}(h:a<N.length)(k:Nat):Kr (Ey N a x) k=if k=a then Kr N a++[x] else Kr N k:=by
 unfold Kr Ey;rw [cT];by_cases e:a=k
 .subst e;rw [if_pos rfl,if_pos h,if_pos rfl];rfl
 .rw [if_neg e,if_neg (Ne.symm e)]
theorem TH {N:Yb}{a:Nat}{x:Int}(h:a<N.length):Cv (Ey N a x) a=Cv N a+1/\∀ k,k≠a->Cv (Ey N a x) k=Cv N k :=
 ⟨by unfold Cv;rw [Hm h,if_pos rfl,aO];rfl,λk hk=>by unfold Cv;rw [Hm h,if_neg hk]⟩
theorem Nh (n k:Nat):Kr (List.replicate n []) k=[]:=by
 unfold Kr;rw [j6];split<;>rfl
theorem YE (n:Nat):Cv (List.replicate n [])=λ_=>0:=by funext k;unfold Cv;rw [Nh];rfl
theorem XI {n:Nat}{N:Yb}{a:Nat}{x:Int}(h:∀ l∈N,∀ y∈l,0<=y/\y<(n:Int))(hx:0<=x/\x<(n:Int)):∀ l∈Ey N a x,∀ y∈l,0<=y/\y<(n:Int):=λl hl y hy=>by
 unfold Ey at hl;rcases lE hl with hl|rfl
 .exact h l hl y hy
 .rcases aQ.1 hy with hy|hy
  .by_cases ha:a<N.length
   .rw [aA ha] at hy;exact h _ (aC ha) y hy
   .rw [bC bL] at hy;cases hy
  .rw [aX.1 hy];exact hx
theorem QM {l:List Bool}:∀ d∈(l.map cB).flatten,d.flat=true:=λd hd=>by
 obtain ⟨c,hc,hd⟩:=iI.1 hd;obtain ⟨b,_,rfl⟩:=aS.1 hc;rw [aX.1 hd];rfl
theorem A6 (H:AHeap)(i j:Nat)(b:Blk):(H.put i b).get j=if j=i then some b else H.get j:=rfl
theorem wF (H:AHeap)(i j:Nat)(b:Blk):(H.push i b).get j=if j=i then some b else H.get j:=rfl
theorem zH (S:Xa1)(hc:D.T S=true)(d:List Arr):Pua 12 [.agg [.list S,.list (d.map Arr.c)]] (.tup [dLI (if FK S.length d≠0 then [] else Mq S.length d),dI (FK S.length d)]):=by
 obtain ⟨n,hn⟩:=cY (S.length);rw [<- hn];have cb:=CM S d;rw [<- hn] at cb;refine uT em (λQ hQ=>(Tz.cK ⟨λt=>t==22||t==26||t==8||t==48||t==57||t==65,λr=>match r with|4=>[(3,4),(3,5),(3,6),(0,7),(1,7),(2,7),(3,7)]|8=>[(1,13),(2,13),(4,13),(5,13),(7,13),(8,13),(9,13),(10,13),(1,14),(2,14),(4,14),(5,14),(13,16),(14,16),(13,17),(14,17),(13,18),(14,18),(13,19),(14,19),(13,20),(14,20),(13,21),(14,21),(1,22),(2,22),(4,22),(5,22),(7,22),(8,22),(9,22),(10,22),(11,22),(12,22),(13,22),(14,22),(16,22),(17,22),(18,22),(19,22),(1,23),(2,23),(4,23),(5,23),(4,25),(5,25)]|_=>[]⟩ func12 rfl ?_));have Y:=xa1 @Arr.c.eq_1 (Eq.symm hn) hc;refine wv (h:=aB (cb) wl ?_);refine dD (λh2=>?_) λh2=>?_
 .have hne:FK n d≠0:=by simpa using h2
  have Y:=wa Y hne;refine wv (h:=?_);exact hQ _ _ (by simp [go_sem,Y,lA,gI,dLI])
 .have hz:FK n d=0:=by simpa using h2
  obtain ⟨g1,h3,d2⟩:n<=300/\d.length<=20000/\d.any (N9 n)=false:=by
   unfold FK at hz;split at hz
   .cases hz
   .split at hz
    .cases hz
    .rename_i q1 q2;exact ⟨bL,bL,by simpa using q2⟩
  have g4:∀ a∈d,(0<=a.from_/\a.from_<n)/\0<=a.L/\a.L<n:=λa X=>by
   have:=iP.1 d2 a X;unfold N9 at this;simp at this;omega
  have e0:=YE n;have f8:=λH X hb la lb=>O2 (H:=H) (a:=3) (b:=7) (ty:=3) (T:=27) (n:=n) X hb la lb bL;have Y:=xa1 Y hz f8;refine wp (h:=o8 (Wm (a:=3) (b:=7) (ty:=3) (T:=27) (n:=n) eh eh eh eh bL) (λi e H=>∃ N:Yb,∃ B:Yb,(e 1=.adr [.list S,.list (d.map Arr.c)]/\e 5=.own 3 n/\e 6=.own 7 n/\e 28=.list (d.map Arr.c)/\e 29=dI d.length/\e 30=dI i)/\(H.get 3=some ⟨27,1,kH 10 n (Cv N),false⟩)/\(3<H.next)/\(H.get 7=some ⟨27,1,kH (10+n) n (Cv B),false⟩)/\(7<H.next)/\(i<=d.length)/\(10+n+n<=H.next)/\(N.length=n)/\(B.length=n)/\(∀ l∈N,∀ y∈l,0<=y/\y<(n:Int))/\(∀ l∈B,∀ y∈l,0<=y/\y<(n:Int))/\(∀ k,Cv N k<=i)/\(∀ k,Cv B k<=i)/\(∀ k,k<n->H.get (10+k)=some ⟨3,1,(Kr N k).map cI,false⟩)/\(∀ k,k<n->H.get (10+n+k)=some ⟨3,1,(Kr B k).map cI,false⟩)/\((d.take i).foldl (λL a=>Ey L a.from_.toNat a.L) (List.replicate n [])=N)/\((d.take i).foldl (λL a=>Ey L a.L.toNat a.from_) (List.replicate n [])=B)) (λi=>d.length - i) 0 ⟨(List.replicate n []),(List.replicate n []),wg,(by rw [e0];exact (Yl (T:=27) eh eh eh eh bL)),wn,(by rw [e0];exact (Yk (T:=27) eh eh eh eh bL)),wn,wi,(by rw [(O2 (T:=27) eh eh eh eh bL)];simp [go_sem]),(by simp),(by simp),(by intro l hl y hy;rw [(List.mem_replicate.1 hl).2] at hy;cases hy),(by intro l hl y hy;rw [(List.mem_replicate.1 hl).2] at hy;cases hy),(by intro k;rw [e0];exact dN _),(by intro k;rw [e0];exact dN _),(by intro k I;rw [Nh];exact (Wl (T:=27) eh eh eh eh bL k I)),(by intro k I;rw [Nh];exact (Wk (T:=27) eh eh eh eh bL k I)),(by rfl),(by rfl)⟩ λI0 g8 i e H g6=>?_);obtain ⟨N,B,E0,f3,c5,e9,c2,hi,g0,V,W,d6,e4,b5,b7,u,w,b6,b9⟩:=g6;have Y:=xa4 Y E0 f3 (bU c5) e9 (bU c2);refine dD (λh6=>?_) λh6=>?_
  .obtain ⟨a,X⟩:=cY (d[i]);obtain ⟨⟨a1,a2⟩,a3,a4⟩:=g4 a (by rw [X];exact aC h6);obtain ⟨p,hp⟩:=cY (a.from_.toNat);obtain ⟨q,hq⟩:=cY (a.L.toNat);have a7:p<n:=bL;have a6:q<n:=bL;obtain ⟨N2,M⟩:=cY (Ey N p a.L);obtain ⟨B2,P⟩:=cY (Ey B q a.from_);have d4:N2.length=n:=by rw [M];simp [Ey,V]
   have e2:B2.length=n:=by rw [P];simp [Ey,W]
   have d5:∀ l∈N2,∀ y∈l,0<=y/\y<(n:Int):=by rw [M];exact XI d6 ⟨a3,a4⟩
   have e3:∀ l∈B2,∀ y∈l,0<=y/\y<(n:Int):=by rw [P];exact XI e4 ⟨a1,a2⟩
   have lN:=TH (x:=a.L) (bL:p<N.length);have lB:=TH (x:=a.from_) (bL:q<B.length);rw [<- M] at lN;rw [<- P] at lB;have d3:∀ k,Cv N2 k<=i+1:=λk=>by
    by_cases e:k=p
    .rw [e,lN.1];have:=b5 p;omega
    .rw [lN.2 k e];have:=b5 k;omega
   have e1:∀ k,Cv B2 k<=i+1:=λk=>by
    by_cases e:k=q
    .rw [e,lB.1];have:=b7 q;omega
    .rw [lB.2 k e];have:=b7 k;omega
   have d7:∀ k,Kr N2 k=if k=p then Kr N p++[a.L] else Kr N k:=λk=>by rw [M];exact Hm bL k
   have e5:∀ k,Kr B2 k=if k=q then Kr B q++[a.from_] else Kr B k:=λk=>by rw [P];exact Hm bL k
   have s3:(kH 10 n (Cv N)).set p [D.own (10+p) (Cv N p+1)]=kH 10 n (Cv N2):=by rw [<- lN.1];exact Lu lN.2
   have s7:(kH (10+n) n (Cv B)).set q [D.own (10+n+q) (Cv B q+1)]=kH (10+n) n (Cv B2):=by rw [<- lB.1];exact Lu lB.2
   have r3:=yB (A:=10) (f:=Cv N) a7;have r7:=yB (A:=10+n) (f:=Cv B) a6;have f5:∀ h,(kH 10 n (Cv N))[p]'h=[D.own (10+p) (Cv N p)]:=λh=>by rw [aA h] at r3;exact Option.some.inj r3
   have f4:∀ h,(kH (10+n) n (Cv B))[q]'h=[D.own (10+n+q) (Cv B q)]:=λh=>by rw [aA h] at r7;exact Option.some.inj r7
   have f7:=Yy H.next;have f6:∀ a b:Nat,(H.next+a+b=H.next)=(a+b=0):=λ_ _=>propext bL;have g3:(Kr N p).length=Cv N p:=rfl;have g2:(Kr B q).length=Cv B q:=rfl;have b1:=u p a7;have b2:=w q a6;have n1:=b5 p;have n2:=b7 q;have f1:=bU (bL:10+p<H.next);have f2:=bU (bL:10+n+q<H.next);have u1:=b8 (a:=10+p) (b:=3) bL;have u2:=b8 (a:=10+p) (b:=7) bL;have u3:=b8 (a:=10+n+q) (b:=3) bL;have u4:=b8 (a:=10+n+q) (b:=7) bL;have u5:=b8 (a:=10+n+q) (b:=10+p) bL;have Y:=xa8 Y h6 (aA h6) (Eq.symm X) (Eq.symm hp) (Eq.symm hq) a1 a2 a3 (xb0 a4 f7 f6 r3 r7 f5 f4 b1 b2 g3 g2 (xb0 f1 f2 u1 u2 u3 u4 u5 s3 s7 a7 a6 @rO));exact wp (h:=wx g8 (i+1) ⟨N2,B2,wg,cl,wn,cl,wn,wj,eq,(by exact d4),(by exact e2),(by exact d5),(by exact e3),(by exact d3),(by exact e1),(by intro k I;simp only [A6,wF,sY,d7];(repeat' split)<;>first|omega|rfl|exact u k I|(simp [cI,dI];done)),(by intro k I;simp only [A6,wF,sY,e5];(repeat' split)<;>first|omega|rfl|exact w k I|(simp [cI,dI];done)),(by rw [aD h6,eG,b6,<- X,M,hp];rfl),(by rw [aD h6,eG,b9,<- X,P,hq];rfl)⟩)
  .rw [aH bL] at b6 b9;have g7:aeW n d=N:=b6;have h1:afU n d=B:=b9;have h0:Mq n d=(List.range n).foldl (Eh N B n) (List.replicate n (-1)):=by unfold Mq;rw [g7,h1]
   refine wp (h:=mT (CQ (-1) n bL) wl ?_);refine wp (h:=bA (λi e H=>∃ o:Xa0,∃ O:Nat,(e 1=.adr [.list S,.list (d.map Arr.c)]/\e 5=.own 3 n/\e 6=.own 7 n/\e 9=.own O n/\e 67=dI n/\e 68=dI i)/\(H.get 3=some ⟨27,1,kH 10 n (Cv N),false⟩)/\(3<H.next)/\(H.get 7=some ⟨27,1,kH (10+n) n (Cv B),false⟩)/\(7<H.next)/\(H.get O=some ⟨3,1,o.map cI,false⟩)/\(O<H.next)/\(i<=n)/\(10+n+n<=O)/\(o.length=n)/\(∀ k,k<n->H.get (10+k)=some ⟨3,1,(Kr N k).map cI,false⟩)/\(∀ k,k<n->H.get (10+n+k)=some ⟨3,1,(Kr B k).map cI,false⟩)/\((List.range i).foldl (Eh N B n) (List.replicate n (-1))=o)) (λi=>n - i) 0 ⟨(List.replicate n (-1)),H.next,wg,wn,wn,wn,wn,wn,wn,wi,(by exact g0),(by simp),(by intro k I;simp only [A6,wF,sY];(repeat' split)<;>first|omega|exact u k I),(by intro k I;simp only [A6,wF,sY];(repeat' split)<;>first|omega|exact w k I),(by rfl)⟩ λI2 d9 i e H c8=>?_);obtain ⟨o,O,E2,a0,c4,Z,c1,gO_2,nO_2,c8,hO,U,u,w,a8⟩:=c8;have Y:=xa6 Y E2 a0 (bU c4) Z (bU c1) gO_2 (bU nO_2);refine dD (λe7=>?_) λe7=>?_
   .have hio:i<o.length:=bL;have a5:Eh N B n o i=if 0<=o[i] then o else (List.range n).foldl (VD (xD N i) (xD B i) i) o:=by unfold Eh;rw [jU hio]
    obtain ⟨v,hv⟩:=cY (o[i]);have Y:=xa3 Y e7 (aA hio) (Eq.symm hv) U;refine jH (λG=>?_) λG=>?_
    .obtain ⟨j,a9⟩:=cY (o);have K:[i].foldl (Eh N B n) o=j:=by show Eh N B n o i=j;rw [a5,if_pos (by rw [<- hv];first|exact G|(simpa using G)),a9]
     have g:j.length=n:=by rw [a9];exact U
     have m:=u;have s:=w;have Y:=wa Y a9;exact wp (h:=wx d9 (i+1) ⟨j,O,wg,wn,wn,wn,wn,wn,wn,wj,(by exact hO),(by exact g),(by exact m),(by exact s),(by rw [c6,eG,a8];exact K)⟩)
    .obtain ⟨F,hF⟩:=cY (xD N i);obtain ⟨C,hC⟩:=cY (xD B i);have f9:¬ 0<=v:=by first|exact G|(simpa using G)|omega
     rw [if_neg (by rw [<- hv];exact f9),<- hF,<- hC] at a5;have Y:=xa2 Y G (Eq.symm hF) (Eq.symm hC);refine wv (h:=?_);refine JR (xY N i bL (by rw [V];exact d6) bL) (by simp [go_sem,Y,Ls a0 V u];rfl) eh QM ?_;refine wv (h:=?_);refine JR (xY B i bL (by rw [W];exact e4) bL) (by simp [go_sem,Y,Ls Z W w];rfl) eh QM ?_;refine wp (h:=bA (λk e H=>∃ j:Xa0,(e 1=.adr [.list S,.list (d.map Arr.c)]/\e 5=.own 3 n/\e 6=.own 7 n/\e 9=.own O n/\e 67=dI n/\e 68=dI i/\e 10=dI i/\e 11=.list (F.map cB)/\e 12=.list (C.map cB)/\e 83=dI n/\e 84=dI k)/\(H.get 3=some ⟨27,1,kH 10 n (Cv N),false⟩)/\(3<H.next)/\(H.get 7=some ⟨27,1,kH (10+n) n (Cv B),false⟩)/\(7<H.next)/\(H.get O=some ⟨3,1,j.map cI,false⟩)/\(O<H.next)/\(k<=n)/\(j.length=n)/\(∀ k,k<n->H.get (10+k)=some ⟨3,1,(Kr N k).map cI,false⟩)/\(∀ k,k<n->H.get (10+n+k)=some ⟨3,1,(Kr B k).map cI,false⟩)/\((List.range k).foldl (VD F C i) o=j)) (λk=>n - k) 0 ⟨o,wg,wn,wn,wn,wn,wn,wn,wi,(by exact U),(by exact u),(by exact w),(by rfl)⟩ λI4 d8 k e H g5=>?_);obtain ⟨j,E4,f0,c3,e8,c0,gO_4,nO_4,I,g,m,s,b4⟩:=g5;have Y:=xa6 Y E4 f0 (bU c3) e8 (bU c0) gO_4 (bU nO_4);refine dD (λe6=>?_) λe6=>?_
     .have hFl:F.length=n:=by rw [hF];exact (IG N i).trans V
      have g9:C.length=n:=by rw [hC];exact (IG B i).trans W
      have b0:k<F.length:=bL;have b3:k<C.length:=bL;obtain ⟨bf,d0⟩:∃ b,b=F[k]:=⟨_,rfl⟩;obtain ⟨bc,d1⟩:∃ b,b=C[k]:=⟨_,rfl⟩;have h4:k<j.length:=bL;obtain ⟨o3,c7⟩:=cY (VD F C i j k);have c9:[k].foldl (VD F C i) j=o3:=c7.symm;have E:o3=if (bf&&bc)=true then j.set k i else j:=by rw [c7];unfold VD;rw [aA b0,aA b3,<- d0,<- d1];rfl
      have Y:=xb0 Y e6 (aA b0) (aA b3) (Eq.symm d0) (Eq.symm d1) @cB.eq_1 hFl g9 g b0 b3;refine jH (λR=>?_) λR=>?_
      .have hbb:(bf&&bc)=true:=by first|exact R|(simpa using R)
       rw [if_pos hbb] at E;have J:o3.length=n:=by rw [E];simpa using g
       have Y:=wa Y E;exact wp (h:=wx d8 (k+1) ⟨o3,wg,wn,wn,wn,wn,wn,wn,wj,(by exact J),(by intro k2 z;(try simp only [A6,wF,sY]);(repeat' split)<;>first|exact m k2 z|omega),(by intro k2 z;(try simp only [A6,wF,sY]);(repeat' split)<;>first|exact s k2 z|omega),(by rw [c6,eG,b4];exact c9)⟩)
      .have hbb:¬ (bf&&bc)=true:=by first|exact R|(simpa using R)
       rw [if_neg hbb] at E;have J:o3.length=n:=by rw [E];exact g
       have Y:=wa Y E;exact wp (h:=wx d8 (k+1) ⟨o3,wg,wn,wn,wn,wn,wn,wn,wj,(by exact J),(by intro k2 z;(try simp only [A6,wF,sY]);(repeat' split)<;>first|exact m k2 z|omega),(by intro k2 z;(try simp only [A6,wF,sY]);(repeat' split)<;>first|exact s k2 z|omega),(by rw [c6,eG,b4];exact c9)⟩)
     .have hke:k=n:=bL;have K:[i].foldl (Eh N B n) o=j:=by show Eh N B n o i=j;rw [a5,<- b4,hke]
      exact wp (h:=wx d9 (i+1) ⟨j,O,wg,wn,wn,wn,wn,wn,wn,wj,(by exact hO),(by exact g),(by exact m),(by exact s),(by rw [c6,eG,a8];exact K)⟩)
   .have hE:Mq n d=o:=by rw [h0,<- a8,(bL:i=n)]
    refine wv (h:=?_);exact hQ _ _ (by simp [go_sem,Y,hE,U,lA,gI,Bb,dLI])
theorem AA (x:XS):Pua 12 [x.d] (.tup [dLI (if FK x.A.length x.M≠0 then [] else Mq x.A.length x.M),dI (FK x.A.length x.M)]):=by
 have:=zH (x.A.map Host.c) eh x.M;rwa [bR] at this
theorem ai4:FK (rG twoT Eu VW 10).1.A.length (rG twoT Eu VW 10).1.M=0/\Mq (rG twoT Eu VW 10).1.A.length (rG twoT Eu VW 10).1.M=[0,0,0]/\(rG twoT Eu VW 10).1.M.length=4:=by decide +kernel
theorem ZH:twoT.ok/\∀ r∈Eu,r.ok:=⟨NW (by decide +kernel),λr hr=>by
 have h1:fewR (HO 0 1)=true:=by decide +kernel
 have h2:fewR (HO 1 0)=true:=by decide +kernel
 simp only [Eu,aP,dU,or_false] at hr;rcases hr with rfl|rfl
 .exact Hz h1
 .exact Hz h2⟩
theorem Vn:Pua 10 [] twoT.d:=by
 refine uT em (λQ a=>(Tz.cK ⟨λt=>t==0,λ_=>[]⟩ func10 rfl ?_));have Y:=trivial;refine wvn (h:=?_);exact a _ _ (by simp [go_sem,twoT,Types.d,Types.c,NodeTy.c,cS,dI,lA,gI,eL])
theorem Jc (a b:Int):Pua 11 [dI a,dI b] (HO a b).d:=by
 refine uT em (λQ e=>(Tz.cK ⟨λt=>t==4,λ_=>[]⟩ func11 rfl ?_));have Y:=trivial;refine wvn (h:=?_);exact e _ _ (by simp [go_sem,HO,tP,Rule.d,Rule.c,Cond.kind,Cond.y,Cond.map,Cond.u,dLI,cI,dI,lA,gI,eL])
theorem Gs:Pua 4 [] (.bool true):=by
 have b:=uM twoT ZH.1 Eu ZH.2 VW 10;have a:=AA (rG twoT Eu VW 10).1;obtain ⟨j,i,g⟩:=ai3;obtain ⟨m,l,k⟩:=ai4;rw [m,if_neg bS,l] at a;rw [j,i] at b;generalize (rG twoT Eu VW 10).1=X at *;refine Tz.pK ⟨λt=>t==1||t==2||t==1000000,λr=>match r with|2=>[(3,4),(0,10),(1,10),(2,10),(3,10),(4,10),(5,10)]|_=>[]⟩ func4 rfl (λQ f=>?_);have Y:=xa3 @XS.d.eq_1 @Host.c.eq_1 @Arr.c.eq_1 g k;refine ZO (h:=aJ (Vn) wl ?_);refine ZO (h:=aJ (Jc 0 1) wl ?_);refine ZO (h:=aJ (Jc 1 0) wl ?_);refine ZO (h:=aJ (b.dd (by simp [go_sem,U5,PT,twoT,Eu,HO,VW,tP,Rule.d,Rule.c,Types.d,Types.c,Host.d,Host.c,cL,dLI,cI,dI,Cond.kind,Cond.y,Cond.map,Cond.u,lA,gI,eL])) wl ?_);refine ZO (h:=aB (a) wl ?_);refine ZO (h:=aN (λe=>yV [0,0,0] [0,0,0]) (λe=>wl) ?_);exact ZO (h:=f _ _ wy)
structure FromC where
 h:Host
 most:Int
def FromC.c (x:FromC):Xa2:=x.h.c++[dI x.most]
section
variable {H:Type} {enc:TypeId × Value→H} {w:World} {base:Nat} {spare:Nat→Bool} {held:Bool} {bulk:DataW H→Nat} {B:Nat}
theorem aiK (hB:Bulk bulk):∀ n,Opens enc prog w base spare held bulk B n 26 (λl:List Rule=>[.list (l.map Rule.c)]) (λl=>l.length<=B/\∀ r∈l,r.bj B)
 | 0=>Opens.zero
 | n+1=>jO hB underlying26 (aiC hB n)
theorem aiG (hB:Bulk bulk):∀ n,Opens enc prog w base spare held bulk B n 35 FromC.c (λ_=>True)
 | 0=>Opens.zero
 | n+1=>(eX hB underlying35 en (bH (aiH hB n) (bH (LK underlying3) (gH)))).map (λp=>⟨p.1,p.2.1⟩) (λp=>by simp [FromC.c,dI]) (λ_ _=>trivial)
end
theorem yO (t:Types)(j:∀ n∈t.i,n.w.length<=1000000000000000)(rs:List Rule)(f:∀ r∈rs,r.le)(h:Host)(most:Int):Pua 3 [t.d,.list (rs.map Rule.c),.agg (h.c++[dI most])] (.bool true):=by
 obtain ⟨b,l⟩:=cY (w9 t rs h);have p:=Pb t j rs f h;rw [<- l] at p;have v:b=true->t.ok/\(∀ r∈rs,r.ok)/\yU h=true:=λa=>by
  rw [l] at a;unfold w9 at a;simp only [aR] at a;obtain ⟨⟨⟨s,e⟩,q⟩,_⟩:=a;refine ⟨NW s,λr f=>?_,q⟩;unfold Br at e;simp only [aR,b7,iP] at e;have:=e.2 r f;exact Hz (by cases u:fewR r<;>simp [u] at this ⊢)
 refine Tz.pK ⟨λt=>t==7||t==10,λr=>match r with|3=>[(0,12),(2,12),(3,12),(4,12),(5,12),(6,12),(7,12)]|_=>[]⟩ func3 rfl (λQ o=>?_);have Y:=xa1 @Host.d.eq_1 @Host.c.eq_1 @XS.d.eq_1;refine wp (h:=aB (Gs) wl ?_);refine wp (h:=aN (λg=>p) (λg=>wl) ?_);refine jH (λk=>?_) λk=>?_
 .skip
  refine wv (h:=aB (Gs) wl ?_);exact wv (h:=o _ _ eh)
 .have hk:=v (by cases b<;>simp at k ⊢);have m:=uM t hk.1 rs hk.2.1 h most;have i:=Kv t hk.1 rs hk.2.1 h most;rw [abB hk.2.1 h most] at i;generalize rG t rs h most=X at m i;refine wv (h:=aJ (KE h hk.2.2) wl ?_);refine wv (h:=aJ (m) wl ?_);refine wv (h:=aB (i) wl ?_);refine wp (h:=aN (λg=>Pa X.1) (λg=>wl) ?_);have Y:=wa Y k;exact wp (h:=o _ _ wy)
end Go.Abs
end
section
namespace Go.Proofs.YtmaibfgcngmjhaaGreat.bulks
open Go.Abs
theorem one_le {H:Type}(d:DataW H):1<=Rows.uptoBulk d:=by
 cases d with
 | lit l=>cases l<;>simp [Rows.uptoBulk]
 | _=>simp [Rows.uptoBulk]
theorem mem_le {H:Type}{d:DataW H}:∀ {l:List (DataW H)},d∈l->Rows.uptoBulk d<=Rows.uptoBulkAll l
 | [],h=>by cases h
 | x :: r,h=>by
  simp only [Rows.uptoBulkAll];rcases aP.1 h with rfl|h
  .omega
  .have:=mem_le h;omega
theorem len_le {H:Type}:∀ l:List (DataW H),l.length<=Rows.uptoBulkAll l
 | []=>by simp [Rows.uptoBulkAll]
 | x :: r=>by have:=one_le x;have:=len_le r;simp only [Rows.uptoBulkAll,cD];omega
theorem ok {H:Type}:Go.Abs.Bulk (Rows.uptoBulk (H:=H)) where
 len e s:=by have:=len_le e;simp only [Rows.uptoBulk];omega
 el e s d h:=by have:=mem_le h;simp only [Rows.uptoBulk];omega
 part l d h:=by have:=mem_le h;simp only [Rows.uptoBulk];omega
 str s:=by simp [Rows.uptoBulk]
theorem bound {H:Type}{l:List (DataW H)}(hk:Rows.uptoSmall H l=true):∀ d∈l,Rows.uptoBulk d<=1048576:=λd hd=>by
 have h:=of_decide_eq_true hk;have:=mem_le hd;omega
end Go.Proofs.YtmaibfgcngmjhaaGreat.bulks
end
