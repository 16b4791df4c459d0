/- The abstraction layer, part S: whole bodies, functions, cont -/
import Derived.Test.YthlnbehgghjppaaGreatZrAD
set_option linter.unusedVariables false
set_option linter.unusedSimpArgs false
section
namespace Go.Abs
abbrev d7:=Nat->D
structure Cfg where
 own:Nat->Bool
 sp:Nat->List (Nat × Nat)
def Ir (H:AHeap)(id i off:Nat)(ty sz:Nat):AHeap :=
 match H.get id with
 | some k=>(H.put id { k with T:=k.T.set i ((k.T[i]?.getD []).set off (.own H.next 0)) }).push H.next ⟨ty,sz,[],false⟩
 | none=>H
def AHeap.drop (H:AHeap)(id:Nat):AHeap:=⟨H.next,H.H,λi=>if i=id then none else H.get i⟩
def Ct (H:AHeap)(id i off q hi:Nat):AHeap :=
 match H.get id,H.get q with
 | some k,some kq=>(((H.drop q).push H.next ⟨kq.ty,kq.Z,kq.T.take hi,false⟩).put id { k with T:=k.T.set i ((k.T[i]?.getD []).set off (.own H.next hi)) })
 | _,_=>H
inductive Ghosts:AHeap->AHeap->Prop
 | refl (H:AHeap):Ghosts H H
 | trunc {H H1:AHeap} (h:Ghosts H H1) (id i off q hi:Nat) (k kq:Blk) (c:Xa2) (hk:H1.get id=some k) (hf:k.fz=false) (hc:k.T[i]?=some c) (hq:H1.get q=some kq) (hn:c[off]?=some (.win q kq.T.length 0 hi)) (hqf:kq.fz=false) (hne:id≠q):Ghosts H (Ct H1 id i off q hi)
 | step {H H1:AHeap} (h:Ghosts H H1) (id i off ty sz:Nat) (k:Blk) (c:Xa2) (hk:H1.get id=some k) (hf:k.fz=false) (hc:k.T[i]?=some c) (hn:c[off]?=some .nil):Ghosts H (Ir H1 id i off ty sz)
def u6 (next:d7->AHeap->Prop)(Q:Exit->d7->AHeap->Prop):Exit->d7->AHeap->Prop
 | .normal,e,H=>next e H
 | ex,e,H=>Q ex e H
def CG (id:Nat)(Q:Exit->d7->AHeap->Prop):Exit->d7->AHeap->Prop
 | .exit id',e,H=>if id'=id then Q .normal e H else Q (.exit id') e H
 | ex,e,H=>Q ex e H
def p7 (P:Program)(c:Cfg):Code->(Exit->d7->AHeap->Prop)->d7->AHeap->Prop
 | .skip,Q,e,H=>Q .normal e H
 | .region id ops dr,Q,e,H =>
  if dr then j5 P c.own ops (c.sp id) H.next 0 ops.toList [] e { H with next:=H.next+ops.size } (Q .normal)
  else oO P c.own ops ops.toList e H (Q .normal)
 | .seq a b,Q,e,H=>p7 P c a (u6 (p7 P c b Q) Q) e H
 | .cond x a b,Q,e,H=>match fG e x with
  | .bool t=>(t=true->p7 P c a Q e H)/\(t=false->p7 P c b Q e H)
  | _=>False
 | .block id b,Q,e,H=>p7 P c b (CG id Q) e H
 | .loop b,Q,e,H=>∃ I:Nat->d7->AHeap->Prop,(∃ H',Ghosts H H'/\∃ k,I k e H')/\∀ k e' H',I k e' H'->p7 P c b (u6 (λe'' H''=>∃ H3,Ghosts H'' H3/\∃ k',k'<k/\I k' e'' H3) Q) e' H'
 | .exit id,Q,e,H=>Q (.exit id) e H
 | .ret,Q,e,H=>Q .ret e H
 | _,_,_,_=>False
def qW (c:Cfg)(n:Nat):Code->Bool
 | .region id ops dr=>(ops.toList.all λo=>sM n o.dst)&&(!dr||yM c.own ops (c.sp id))
 | .seq a b=>qW c n a&&qW c n b
 | .cond _ a b=>qW c n a&&qW c n b
 | .block _ b=>qW c n b
 | .loop b=>qW c n b
 | _=>true
section
variable {P:Program} {c:Cfg} {n:Nat} {M0:Nat→Prop}
theorem jI {x:Code}{Q Q':Exit->Act->World->Prop}{a:Act}{w:World}(h:x.wp P Q a w)(hq:∀ e a w,Q e a w->Q' e a w):x.wp P Q' a w:=wp_mono h hq
theorem gU {p:Nat->Prop}(h:∃ k,p k):∃ k,p k/\∀ j,j<k->¬ p j:=by
 obtain ⟨k,hk⟩:=h;induction k using Nat.strongRecOn with
 | _ k ih =>
  grind
def SP (n:Nat)(M0:Nat->Prop)(H0:AHeap)(σ0:Nat->Option Ow)(w0:World)(Q:Exit->d7->AHeap->Prop)(ex:Exit)(a:Act)(w:World):Prop:=Came n M0 H0 σ0 w0 (Q ex) a w
theorem y8 {sz:Nat}(d:D)(off:Nat)(c:Xa2):∀ (es:Xa1) (i:Nat),(∀ c∈es,c.length=sz)->es[i]?=some c->off<sz->(es.set i (c.set off d)).flatten=es.flatten.set (i * sz+off) d
 | [],i,_,h,_=>by simp at h
 | a :: es,0,hl,h,ho=>by
  simp at h;subst h;have:=hl a eG;simp only [wU,eQ,Nat.zero_mul,eN];rw [List.set_append_left _ _ bZ]
 | a :: es,i+1,hl,h,ho=>by
  have ha:=hl a eG;simp at h;have ih:=y8 d off c es i (λc hc=>hl c (by simp [hc])) h ho;simp only [Fd,eQ,ih];rw [nO _ _ (by rw [Nat.add_mul];omega)];congr 2;rw [ha,Nat.add_mul];omega
theorem Pg {H:AHeap}{σ:Nat->Option Ow}{w:World}(B:Rel M0 H σ w){f i a ty sz:Nat}{k:Blk}{m:Xa2}(z:H.get f=some k)(X:k.fz=false)(r:k.T[i]?=some m)(hn:m[a]?=some .nil) :
  ∃ σ',Rel M0 (Ir H f i a ty sz) σ' w/\Stp σ w σ' w/\Keeps (dD M0 H σ) σ H.H w (dD M0 (Ir H f i a ty sz) σ') σ' (Ir H f i a ty sz).H w:=by
 have A:¬ H.H H.next:=λh=>pZ _ (B.bp _ h);have I:H.H f:=bH λhn=>by rw [(B.bn f hn).2] at z;cases z
 have y:f≠H.next:=λh=>A (h ▸ I);obtain ⟨S,R,M⟩:=Rel.push B H.next A (w':=w) rfl rfl rfl (bD _) (λ_ _=>rfl) ⟨ty,sz,[],false⟩ ⟨0,.slice none 0 0,sz,ty⟩ (λb hb=>by simp [Ow.block,Value.ownBlock] at hb) rfl rfl rfl (λc r=>by simp at r) []
  ⟨by simp,.inl ⟨rfl,rfl⟩⟩ eG ⟨rfl,λj u d hu=>by simp at hu⟩
 obtain ⟨o,U,l⟩:=B.ak f k z;obtain ⟨N,t,C,v⟩:=l.row;have G:(H.push H.next ⟨ty,sz,[],false⟩).get f=some k:=by simp [AHeap.push,y,z]
 have E:(λi=>if i=H.next then some (⟨0,.slice none 0 0,sz,ty⟩:Ow) else σ i) f=some o:=by simp [y,U]
 have n:=l.J m (aM r);have g:a<o.J:=by rw [<- n];exact (aK.1 hn).1
 have p:∀ c∈k.T.set i (m.set a (.own H.next 0)),c.length=o.J:=λc K=>by
  rcases oE K with h|h
  .exact l.J c h
  grind
 have J:=y8 (D.own H.next 0) a m k.T i l.J r g;obtain ⟨Q,P,O⟩:=Rel.put S G X E { k with T:=k.T.set i (m.set a (.own H.next 0)) } o ⟨rfl,rfl,rfl,bD _,λ_ _ _=>rfl⟩ (λb hb=>.inl hb) (.inl rfl) (by simp [l.ai]) l.ty l.Z p N (eL t) C (by
   have e:=v.u M;simp only;rw [J];refine ⟨by simpa using e.len,λj u d hu q=>?_⟩;rw [eB] at q;split at q
   .rename_i V;split at q
    .cases q
     have x:k.T.flatten[j]?=some .nil:=by
      rw [<- V,n6 k.T i m l.J r a g];exact hn
     have T:=e.ad j u _ hu x;cases T
     exact .own _ _ _ (.inl rfl) rfl λo' ho'=>by simp at ho';subst ho';exact .inr ⟨rfl,rfl⟩
    .cases q
   .exact e.ad j u d hu q)
 have W:Ir H f i a ty sz=(H.push H.next ⟨ty,sz,[],false⟩).put f { k with T:=k.T.set i (m.set a (.own H.next 0)) }:=by
  simp only [Ir,z,r,aD];unfold AHeap.push AHeap.put;grind
 rw [W];exact ⟨_,Q,R.trans P,M.trans O⟩
theorem El {sz:Nat}:∀ (es:Xa1) (n:Nat),(∀ c∈es,c.length=sz)->(es.take n).flatten=es.flatten.take (n * sz)
 | [],n,_=>by simp
 | a :: es,0,_=>by simp
 | a :: es,n+1,h=>by
  have ha:=h a eG;rw [u0,eQ,eQ,El es n λc hc=>h c (by simp [hc]),Nat.add_mul,Nat.one_mul,Nat.add_comm,<- ha,List.take_length_add_append]
theorem SU {H:AHeap}{σ:Nat->Option Ow}{w:World}(hR:Rel M0 H σ w){q hi n:Nat}{kq:Blk}{oq:Ow}(hq:H.get q=some kq)(hqf:kq.fz=false)(hoq:σ q=some oq)(hn:¬ H.H n){v:Value}(hh:hi<=kq.T.length)(hv:VR oq v kq.T.length 0 hi) :
  let σ':Nat->Option Ow:=λi=>if i=n then some ⟨hi,v,oq.J,oq.ty⟩ else if i=q then none else σ i
  Rel M0 ((H.drop q).push n ⟨kq.ty,kq.Z,kq.T.take hi,false⟩) σ' w/\Stp σ w σ' w/\Keeps (dD M0 H σ) σ H.H w (dD M0 ((H.drop q).push n ⟨kq.ty,kq.Z,kq.T.take hi,false⟩) σ') σ' ((H.drop q).push n ⟨kq.ty,kq.Z,kq.T.take hi,false⟩).H w:=by
 intro σ';have hqal:H.H q:=bH λh=>by rw [(hR.bn q h).1] at hoq;cases hoq
 have hqn:q≠n:=λe=>hn (e ▸ hqal);have hblk:∀ b,v.ownBlock=some b->oq.block=some b:=λb hb=>by
  rcases hv with ⟨_,rfl,_⟩|⟨b',cap,h1,h2,rfl⟩
  .simp [Value.ownBlock] at hb
  .simp only [Value.ownBlock] at hb;simp only [Ow.block,h1,Value.ownBlock];rw [<- hb];split<;>rfl
 have hmut:∀ b,dD M0 ((H.drop q).push n ⟨kq.ty,kq.Z,kq.T.take hi,false⟩) σ' b->dD M0 H σ b:=by
  rintro b (hm|⟨i,k',o',hk',hf,ho',hb'⟩)
  .exact .inl hm
  .by_cases h1:i=n
   .simp only [σ',h1,if_true,aZ] at ho';subst ho';exact .inr ⟨q,kq,oq,hq,hqf,hoq,hblk b hb'⟩
   .by_cases h2:i=q
    .simp only [σ',h2,if_false,if_true,hqn] at ho';cases ho'
    .simp only [σ',h1,h2,if_false] at ho';simp only [AHeap.push,AHeap.drop,h1,h2,if_false] at hk';exact .inr ⟨i,k',o',hk',hf,ho',hb'⟩
 have hkeep:Keeps (dD M0 H σ) σ H.H w (dD M0 ((H.drop q).push n ⟨kq.ty,kq.Z,kq.T.take hi,false⟩) σ') σ' ((H.drop q).push n ⟨kq.ty,kq.Z,kq.T.take hi,false⟩).H w:=by
  refine ⟨λad u hm hu=>⟨λh=>hm (hmut _ h),hu⟩,λi o' hi' ho'=>?_,λi hi'=>.inr hi'⟩;have h1:i≠n:=λe=>hn (e ▸ hi');by_cases h2:i=q
  .simp only [σ',h2,if_true,hqn,if_false] at ho';cases ho'
  .simp only [σ',h1,h2,if_false] at ho';exact ⟨o',ho',.inl rfl⟩
 have hold:∀ {i o'},i≠n->σ' i=some o'->i≠q/\σ i=some o':=λ {i o'} h1 ho'=>by
  by_cases h2:i=q
  .simp only [σ',h2,if_true,hqn,if_false] at ho';cases ho'
  .simp only [σ',h1,h2,if_false] at ho';exact ⟨h2,ho'⟩
 obtain ⟨o2,ho2,l⟩:=hR.ak q kq hq;rw [hoq] at ho2;cases ho2
 obtain ⟨xs,hrow,hx1,hrep⟩:=l.row;refine ⟨⟨λi hi'=>?_,λi hi'=>?_,λi k' hk'=>?_,λi j oi oj b hi' hj' hbi hbj=>?_,λi oi b hi' hbi=>?_,hR.m0⟩,⟨rfl,rfl,rfl,bD _,λ_ _ _=>rfl,λi o' b ho' hb'=>?_⟩,hkeep⟩
 .have hi2:¬ (i=n\/H.H i):=hi';have h1:i≠n:=λe=>hi2 (.inl e);have h2:i≠q:=λe=>hi2 (.inr (e ▸ hqal));simp only [σ',AHeap.push,AHeap.drop,h1,h2,if_false];exact hR.bn i λe=>hi2 (.inr e)
 .have hi2:i=n\/H.H i:=hi';have he:((H.drop q).push n ⟨kq.ty,kq.Z,kq.T.take hi,false⟩).next=if n<H.next then H.next else n+1:=rfl
  rw [he];rcases hi2 with rfl|hi2
  .by_cases h:i<H.next
   .rw [if_pos h];exact h
   .rw [if_neg h];omega
  .have:=hR.bp i hi2;by_cases h:n<H.next
   .rw [if_pos h];exact this
   .rw [if_neg h];omega
 .by_cases h1:i=n
  .simp only [AHeap.push,h1,if_true,aZ] at hk';subst hk';refine ⟨⟨hi,v,oq.J,oq.ty⟩,by simp [σ',h1],by simp;omega,l.ty,l.Z,λc hc=>l.J c (dL hc),xs.take (hi * oq.J),⟨?_,?_⟩,λu hu=>hx1 u (dL hu),?_⟩
   .have:=hrow.1;have h2:hi * oq.J<=kq.T.length * oq.J:=fL _ hh;simp only [dF];rw [Nat.min_eq_left hh,Nat.min_eq_left bZ]
   .have hm:(kq.T.take hi).length=hi:=by simp;omega
    simp only [hm];rcases hv with ⟨h1,h2,h3⟩|⟨b',cap,h1,h2,h3⟩
    .exact .inl ⟨h2,h3⟩
    .rcases hrow.2 with ⟨hn0,_⟩|⟨g,cap',cur,e1,e2,e3,e4,e5,e6,e7⟩
     .rw [h1] at hn0;cases hn0
     .rw [h1] at e1;cases e1
      refine .inr ⟨b',cap,cur,?_,d9 _,e3,bZ,e5,e6,?_⟩
      .rw [h3];simp
      .rw [<- e7,List.take_take,Nat.min_eq_left (fL _ hh)]
   .have hr:=hrep.u hkeep;refine ⟨?_,λj u d hu hd=>?_⟩
    .simp only;rw [El kq.T hi l.J];simp [hr.len]
    .simp only at hd;rw [El kq.T hi l.J,b9] at hd;rw [b9] at hu;split at hd
     .rename_i hj;rw [if_pos hj] at hu;exact hr.ad j u d hu hd
     .cases hd
  .by_cases h2:i=q
   .simp only [AHeap.push,AHeap.drop,h2,if_false,if_true,hqn] at hk';cases hk'
   .simp only [AHeap.push,AHeap.drop,h1,h2,if_false] at hk';obtain ⟨o',ho',l'⟩:=hR.ak i k' hk';obtain ⟨xs',a1,a2,a3⟩:=l'.row;exact ⟨o',by simp [σ',h1,h2,ho'],l'.ai,l'.ty,l'.Z,l'.J,xs',a1,a2,a3.u hkeep⟩
 .by_cases h1:i=n<;>by_cases h2:j=n
  .rw [h1,h2]
  .simp only [σ',h1,if_true,aZ] at hi';subst hi';obtain ⟨h3,h4⟩:=hold h2 hj';exact absurd (hR.inj j q oj oq b h4 hoq hbj (hblk b hbi)) h3
  .simp only [σ',h2,if_true,aZ] at hj';subst hj';obtain ⟨h3,h4⟩:=hold h1 hi';exact absurd (hR.inj i q oi oq b h4 hoq hbi (hblk b hbj)) h3
  .exact hR.inj i j oi oj b (hold h1 hi').2 (hold h2 hj').2 hbi hbj
 .by_cases h1:i=n
  .simp only [σ',h1,if_true,aZ] at hi';subst hi';exact hR.lt q oq b hoq (hblk b hbi)
  .exact hR.lt i oi b (hold h1 hi').2 hbi
 .by_cases h1:i=n
  .simp only [σ',h1,if_true,aZ] at ho';subst ho';exact .inr ⟨q,oq,hoq,hblk b hb'⟩
  .exact .inr ⟨i,o',(hold h1 ho').2,hb'⟩
theorem MR {H:AHeap}{σ:Nat->Option Ow}{w:World}(J:Rel M0 H σ w){f i a q e:Nat}{k kq:Blk}{s:Xa2}(G:H.get f=some k)(hf:k.fz=false)(L:k.T[i]?=some s)(R:H.get q=some kq)
  (hn:s[a]?=some (.win q kq.T.length 0 e)) (Q:kq.fz=false) (F:f≠q) :
  ∃ σ',Rel M0 (Ct H f i a q e) σ' w/\Stp σ w σ' w/\Keeps (dD M0 H σ) σ H.H w (dD M0 (Ct H f i a q e) σ') σ' (Ct H f i a q e).H w:=by
 have I:¬ H.H H.next:=λh=>pZ _ (J.bp _ h);have X:H.H f:=bH λhn=>by rw [(J.bn f hn).2] at G;cases G
 have r:f≠H.next:=λh=>I (h ▸ X);obtain ⟨K,C,lq⟩:=J.ak q kq R;obtain ⟨o,ho,l⟩:=J.ak f k G;obtain ⟨M,B,A,m⟩:=l.row;have t:=l.J s (aM L);have p:a<o.J:=by rw [<- t];exact (aK.1 hn).1
 have n:k.T.flatten[i * o.J+a]?=some (.win q kq.T.length 0 e):=by rw [n6 k.T i s l.J L a p];exact hn
 have U:i * o.J+a<M.length:=by rw [m.len];exact (aK.1 n).1
 obtain ⟨v,N⟩:∃ v,M[i * o.J+a]?=some v:=⟨_,aA U⟩;have P:=m.ad _ v _ N n;have E:v.oneCell'=true:=A v (aM N);obtain ⟨hh,hw⟩:e<=kq.T.length/\VR K v kq.T.length 0 e:=by
  cases P
  rename_i _ _ V h;refine ⟨V.2,?_⟩;rcases h K C with h'|⟨_,h'⟩
  .have:=lq.ai;omega
  .exact h'
 obtain ⟨p1,p2,p3⟩:=SU J R Q C I hh hw;have W:((H.drop q).push H.next ⟨kq.ty,kq.Z,kq.T.take e,false⟩).get f=some k:=by simp [AHeap.push,AHeap.drop,r,F,G]
 have S:(λi=>if i=H.next then some (⟨e,v,K.J,K.ty⟩:Ow) else if i=q then none else σ i) f=some o:=by simp [r,F,ho]
 have x:∀ c∈k.T.set i (s.set a (.own H.next e)),c.length=o.J:=λc Z=>by
  rcases oE Z with h|h
  .exact l.J c h
  grind
 have Y:=y8 (D.own H.next e) a s k.T i l.J L p;obtain ⟨q1,q2,q3⟩:=Rel.put p1 W hf S { k with T:=k.T.set i (s.set a (.own H.next e)) } o ⟨rfl,rfl,rfl,bD _,λ_ _ _=>rfl⟩ (λb hb=>.inl hb) (.inl rfl) (by simp [l.ai]) l.ty l.Z x M (eL B) A (by
   have g:=m.u p3;simp only;rw [Y];refine ⟨by simpa using g.len,λj u d O y=>?_⟩;rw [eB] at y;split at y
   .rename_i hj;split at y
    .cases y
     rw [<- hj,N] at O;cases O
     exact .own _ _ _ (.inl rfl) E λo' ho'=>by simp at ho';subst ho';exact .inr ⟨rfl,rfl⟩
    .cases y
   .exact g.ad j u d O y)
 have hg:Ct H f i a q e=((H.drop q).push H.next ⟨kq.ty,kq.Z,kq.T.take e,false⟩).put f { k with T:=k.T.set i (s.set a (.own H.next e)) }:=by
  simp only [Ct,G,R,L,aD]
 rw [hg];exact ⟨_,q1,p2.trans q2,p3.trans q3⟩
theorem y6 {H H':AHeap}(j:Ghosts H H'){σ:Nat->Option Ow}{w:World}(l:Rel M0 H σ w):∃ σ',Rel M0 H' σ' w/\Stp σ w σ' w/\Keeps (dD M0 H σ) σ H.H w (dD M0 H' σ') σ' H'.H w:=by
 induction j with
 | refl=>exact ⟨σ,l,.refl _ _,.refl _ _ _ _⟩
 | trunc h id i off q hi k kq c hk hf hc hq hn hqf hne ih =>
  obtain ⟨σ1,g,f,e⟩:=ih;obtain ⟨σ2,d,b,a⟩:=MR g hk hf hc hq hn hqf hne;exact ⟨σ2,d,f.trans b,e.trans a⟩
 | step h id i off ty sz k c hk hf hc hn ih =>
  obtain ⟨σ1,g,f,e⟩:=ih;obtain ⟨σ2,d,b,a⟩:=Pg (ty:=ty) (sz:=sz) g hk hf hc hn;exact ⟨σ2,d,f.trans b,e.trans a⟩
theorem St.keeps {H H':AHeap}{σ σ':Nat->Option Ow}{w:World}{e:d7}{a:Act}(hS:St n M0 H σ w e a)(hR:Rel M0 H' σ' w)(hk:Keeps (dD M0 H σ) σ H.H w (dD M0 H' σ') σ' H'.H w):St n M0 H' σ' w e a :=
 ⟨hR,λt=>(hS.cR t).u hk,hS.defers,hS.size⟩
theorem pY (hm:P.follows .mixedOrders=true):∀ (x:Code) (Q:Exit->d7->AHeap->Prop) (e:d7) (H:AHeap),p7 P c x Q e H->qW c n x=true ->
  ∀ (σ:Nat->Option Ow) (w:World) (a:Act),St n M0 H σ w e a->x.wp P (SP n M0 H σ w Q) a w
 | .skip,Q,e,H,h,_,σ,w,a,hS=>wp_skip ⟨e,H,σ,h,hS,.refl _ _,.refl _ _ _ _⟩
 | .region id ops dr,Q,e,H,h,hok,σ,w,a,hS=>by
  simp only [qW,aL,b6,c5,b7] at hok;unfold p7 at h;cases dr with
  | false =>
   simp only [fC,if_false] at h;exact wp_region_list (Je ops.toList e H _ h hok.1 σ w a hS λa' w' hc=>hc)
  | true =>
   simp only [if_true] at h;exact Ri hm (hok.2.resolve_left eG) hok.1 h hS λa' w' hc=>hc
 | .seq x y,Q,e,H,h,hok,σ,w,a,hS=>by
  simp only [qW,aL] at hok;unfold p7 at h;refine wp_seq (jI (pY hm x _ e H h hok.1 σ w a hS) λex a' w' hc=>?_);cases ex<;>first|exact hc|skip
  obtain ⟨e',H',σ',hq,hS',hst,hk⟩:=hc;exact jI (pY hm y Q e' H' hq hok.2 σ' w' a' hS') λex a'' w'' hc'=>Came.trans hst hk hc'
 | .cond x y z,Q,e,H,h,hok,σ,w,a,hS=>by
  simp only [qW,aL] at hok;unfold p7 at h;have hx:=hS.bs.ev x;cases hv:fG e x<;>simp only [hv] at h<;>try (exact h.elim)
  rename_i t;rw [hv] at hx;have hc:a.eval x=.bool t:=by generalize a.eval x=v at hx;cases hx;rfl
  exact wp_cond_split hc (λht=>pY hm y Q e H (h.1 ht) hok.1 σ w a hS) λht=>pY hm z Q e H (h.2 ht) hok.2 σ w a hS
 | .block id b,Q,e,H,h,hok,σ,w,a,hS=>by
  unfold p7 at h;refine wp_block (jI (pY hm b _ e H h hok σ w a hS) λex a' w' hc=>?_);cases ex<;>first|exact hc|skip
  rename_i id';by_cases hid:id'=id
  .subst hid;show (if id'=id' then SP n M0 H σ w Q .normal a' w' else _);rw [if_pos rfl];exact Came.mono hc λe' H' h=>by
    have h':(if id'=id' then Q .normal e' H' else Q (.exit id') e' H'):=h;rw [if_pos rfl] at h';exact h'
  .show (if id'=id then SP n M0 H σ w Q .normal a' w' else SP n M0 H σ w Q (.exit id') a' w');rw [if_neg hid];exact Came.mono hc λe' H' h=>by
    have h':(if id'=id then Q .normal e' H' else Q (.exit id') e' H'):=h;rw [if_neg hid] at h';exact h'
 | .loop b,Q,e,H,h,hok,σ,w,a,hS=>by
  unfold p7 at h;obtain ⟨I,⟨H1,hgh,k0,h0⟩,hI⟩:=h;obtain ⟨σ1,g1,g2,g3⟩:=y6 hgh hS.bl;have hS1:=hS.keeps g1 g3;let J:Nat->Act->World->Prop:=λk a' w'=>Came n M0 H σ w (I k) a' w'
  have hJ0:J k0 a w:=⟨e,H1,σ1,h0,hS1,g2,g3⟩
  classical
  let μ:Act->World->Nat:=λa' w'=>if hx:∃ k,J k a' w' then Classical.choose (gU hx) else 0
  refine wp_loop (λa' w'=>∃ k,J k a' w') μ ⟨k0,hJ0⟩ λa' w' hx=>?_;have hμ:μ a' w'=Classical.choose (gU hx):=by simp only [μ,dif_pos hx]
  obtain ⟨e',H',σ',hi,hS',hst,hk⟩:=(Ac (gU hx)).1;refine jI (pY hm b _ e' H' (hI _ e' H' hi) hok σ' w' a' hS') λex a'' w'' hc=>?_;have hc':=Came.trans hst hk hc;cases ex<;>first|exact hc'|skip
  obtain ⟨e2,H20,σ20,⟨H2,hgh2,k',hlt,hk'⟩,hS2,hst2,hk2⟩:=hc';obtain ⟨σ2,j1,j2,j3⟩:=y6 hgh2 hS2.bl;have rest:=xa1 (hS2.keeps j1 j3) (hst2.trans j2) (hk2.trans j3);have hx2:∃ k,J k a'' w'':=⟨k',e2,H2,σ2,hk',rest⟩;refine ⟨hx2,?_⟩;have:μ a'' w''=Classical.choose (gU hx2):=by simp only [μ,dif_pos hx2]
  rw [this,hμ];refine Nat.lt_of_le_of_lt ?_ hlt;rcases bT k' (Classical.choose (gU hx2)) with hlt'|hge
  .exact absurd ⟨e2,H2,σ2,hk',rest⟩ ((Ac (gU hx2)).2 k' hlt')
  .exact hge
 | .exit id,Q,e,H,h,_,σ,w,a,hS=>wp_exit ⟨e,H,σ,h,hS,.refl _ _,.refl _ _ _ _⟩
 | .ret,Q,e,H,h,_,σ,w,a,hS=>wp_ret ⟨e,H,σ,h,hS,.refl _ _,.refl _ _ _ _⟩
 | .rangeFunc ..,Q,e,H,h,_,_,_,_,_=>h.elim
 | .scope ..,Q,e,H,h,_,_,_,_,_=>h.elim
 | .label ..,Q,e,H,h,_,_,_,_,_=>h.elim
 | .goto ..,Q,e,H,h,_,_,_,_,_=>h.elim
 | .refuse ..,Q,e,H,h,_,_,_,_,_=>h.elim
end
end Go.Abs
end
section
namespace Go.Abs
def D8 (P:Program):List ResultVar->d7->AHeap->(Xa2->Prop)->Prop
 | [],_,_,K=>K []
 | .tmp t :: r,e,H,K=>D8 P r e H λl=>K (e t :: l)
 | .cell a ty :: r,e,H,K=>(o9 P ty (e a) H).cond/\D8 P r e H λl=>K ((o9 P ty (e a) H).val :: l)
def G2:Xa2->D
 | [d]=>d
 | l=>.tup l
def S9 (P:Program)(rs:List ResultVar)(Q:D->AHeap->Prop):Exit->d7->AHeap->Prop
 | .normal,e,H=>D8 P rs e H λl=>Q (G2 l) H
 | .ret,e,H=>D8 P rs e H λl=>Q (G2 l) H
 | _,_,_=>False
def DM (args:Xa2):d7:=λt=>args.getD t .junk
def Eu (tmps:Array Value):ResultVar->Sem Value
 | .tmp t=>Pure.pure (tmps.getD t undef)
 | .cell x t=>do loadVar t (<- asAddr (tmps.getD x undef))
section
variable {P:Program} {M0:Nat→Prop} {H:AHeap} {σ:Nat→Option Ow} {w:World} {n:Nat} {e:d7} {a:Act}
theorem zD (hS:St n M0 H σ w e a):∀ (rs:List ResultVar) (K:Xa2->Prop),D8 P rs e H K ->
  ∃ vs l,Sem.run P (rs.mapM (Eu a.tmps)) w=Result.ok vs w/\RepL (dD M0 H σ) σ H.H w vs l/\K l
 | [],K,h=>⟨[],[],by simp,⟨rfl,λj u d hu=>by simp at hu⟩,h⟩
 | .tmp t :: rs,K,h=>by
  obtain ⟨vs,l,h1,h2,h3⟩:=zD hS rs _ h;refine ⟨a.tmps.getD t undef :: vs,e t :: l,by simp [List.mapM_cons,Eu,h1],⟨by simp [h2.len],λj u d hu hd=>?_⟩,h3⟩;cases j with
  | zero=>simp only [eE,aZ] at hu hd;subst hu;subst hd;exact hS.cR t
  | succ j=>exact h2.ad j u d (eL hu) (eL hd)
 | .cell x t :: rs,K,h=>by
  obtain ⟨vs,l,h1,h2,h3⟩:=zD hS rs _ h.2;obtain ⟨_,_,v,hr,hv⟩:=OX (P:=P) hS.bl (hS.cR x) h.1;have hld:Sem.run P (Eu a.tmps (.cell x t)) w=.ok v w:=by
   simp only [Eu];unfold Instr.loadAt at hr;generalize a.tmps.getD x undef=q at hr ⊢;cases q with
   | pointer p=>cases p with
    | some ad=>simpa [Instr.sureAddr,asAddr] using hr
    | none=>simp [Instr.sureAddr,stuck] at hr
   | _=>simp [Instr.sureAddr,stuck] at hr
  refine ⟨v :: vs,_ :: l,by simp [List.mapM_cons,hld,h1],⟨by simp [h2.len],λj u d hu hd=>?_⟩,h3⟩;cases j with
  | zero=>simp only [eE,aZ] at hu hd;subst hu;subst hd;exact hv
  | succ j=>exact h2.ad j u d (eL hu) (eL hd)
theorem Fn {fn:Func}{vs:List Value}{l:Xa2}(h:Sem.run P (fn.results.toList.mapM (Eu a.tmps)) w=.ok vs w)(b:RepL (dD M0 H σ) σ H.H w vs l) :
  ∃ v,(results fn a.tmps).run P w=.ok v w/\RepV (dD M0 H σ) σ H.H w v (G2 l):=by
 have c:results fn a.tmps=(do let vs <- fn.results.mapM (Eu a.tmps);Pure.pure (if h:vs.size=1 then vs[0] else .tuple vs)):=rfl;rw [c,Array.mapM_eq_mapM_toList];refine ⟨if h:vs.toArray.size=1 then vs.toArray[0] else .tuple vs.toArray,by simp [h],?_⟩;by_cases f:vs.length=1
 .match vs,f,b with
  | [v],_,b =>
   match l,b with
   | [d],b=>simpa [G2] using b.ad 0 v d rfl rfl
   | [],b=>have:=b.len;simp at this
   | _ :: _ :: _,b=>have:=b.len;simp at this
 .have e:¬ vs.toArray.size=1:=by simpa using f
  rw [dif_neg e];have g:G2 l=.tup l:=by
   match l,b with
   | [],_=>rfl
   | [d],b=>have:=b.len;simp at this;exact absurd this f
   | _ :: _ :: _,_=>rfl
  rw [g];exact .tup vs l b.len b.ad
theorem Xn {n:Nat}{vals:List Value}{args:Xa2}(e:Rel M0 H σ w)(a:RepL (dD M0 H σ) σ H.H w vals args)(c:args.length<=n):St n M0 H σ w (DM args) { tmps:=vals.toArray++Array.replicate (n - vals.toArray.size) undef,defers:=[] }:=by
 refine ⟨e,λt=>?_,rfl,by simp [a.len];omega⟩;simp only [DM];by_cases b:t<vals.length
 .have h1:vals[t]?=some vals[t]:=aA b;have d:args[t]?=some (args[t]'(by rw [<- a.len];exact b)):=aA _;have:=a.ad t _ _ h1 d;rw [List.getD_eq_getElem?_getD,d];simp only [aD,mX];rw [Array.getElem?_append_left (eL b)];simpa [h1] using this
 .rw [List.getD_eq_getElem?_getD,b5 (by rw [<- a.len];omega)];exact .junk _
theorem Wp {l r:List ResultVar}(h:l=r:=by first|exact @rfl (List Go.ResultVar) [.tmp _]|exact @rfl (List Go.ResultVar) []|exact @rfl (List Go.ResultVar) [.tmp _,.tmp _]|exact @rfl (List Go.ResultVar) [.cell _ _,.tmp _]|exact @rfl (List Go.ResultVar) [.cell _ _]|exact @rfl (List Go.ResultVar) [.cell _ _,.cell _ _,.tmp _]|exact @rfl (List Go.ResultVar) [.cell _ _,.cell _ _]|exact @rfl (List Go.ResultVar) [.tmp _,.cell _ _,.tmp _]|exact @rfl (List Go.ResultVar) [.tmp _,.tmp _,.tmp _]|exact @rfl (List Go.ResultVar) [.cell _ _,.tmp _,.tmp _]|exact @rfl (List Go.ResultVar) [.cell _ _,.cell _ _,.cell _ _]|exact @rfl (List Go.ResultVar) [.cell _ _,.cell _ _,.cell _ _,.tmp _]):l=r:=h
theorem aJ {f:FuncId}{fn:Func}{x:Code}{r:List ResultVar}{cfg:Cfg}{args:Xa2}{Q:D->AHeap->Prop}(z:P.follows .mixedOrders=true)(s:P.funcs[f]?=some fn)(t:fn.body=some x)
  (n:(fn.name=="runtime.NumGoroutine")=false) (c:args.length<=fn.ntmps) (m:qW cfg fn.ntmps x=true)
  (h:p7 P cfg x (S9 P r Q) (DM args) H) (y:fn.results.toList=r:=by exact Wp):ACalls P f args H Q:=by
 subst y;refine ⟨⟨fn,s,n,by simp [t]⟩,λg σ w q F C=>calls_of_wp s t ?_⟩;have E:=Xn F C c;refine jI (pY z x _ _ H h m σ w _ E) λK u b B=>?_;obtain ⟨L,p,σ',e,a,k,A⟩:=B;have o:D8 P fn.results.toList L p (λl=>Q (G2 l) p)->u.defers=[]/\∃ v,(results fn u.tmps).run P b=.ok v b /\
   ∃ v2 d H2 σ2,Ending.returned v=.returned v2/\Rel g H2 σ2 b/\RepV (dD g H2 σ2) σ2 H2.H b v2 d/\Stp σ w σ2 b/\Keeps (dD g H σ) σ H.H w (dD g H2 σ2) σ2 H2.H b/\Q d H2:=by
  intro e;obtain ⟨M,l,J,I,G⟩:=zD a _ _ e;obtain ⟨v,j,i⟩:=Fn (fn:=fn) J I;exact ⟨a.defers,v,j,v,_,p,σ',rfl,a.bl,i,k,A,G⟩
 cases K<;>first|exact o e|exact e.elim
end
/-! ### pure contracts -/
theorem sO {l:Xa2}(h:∀ d∈l,d.W=true):D.N l=true:=by
 induction l with
 | nil=>rfl
 | cons a l ih=>simp [D.N,h a eG,ih λd hd=>h d (by simp [hd])]
def g8:Nat->Option Ow:=λ_=>none
def sD:Nat->Prop:=λ_=>False
def Pure (P:Program)(f:FuncId)(args:Xa2)(r:D):Prop :=
 Wa P f/\∀ (M:Nat->Prop) (w:World) (vals:List Value),(∀ b,M b->b<w.heap.size)->RepL M g8 sD w vals args ->
  Calls P f vals.toArray w λe w'=>∃ v,e=.returned v/\RepV M g8 sD w' v r/\RowKit.Below w.heap.size w w'
def Own (P:Program)(f:FuncId)(args:Xa2)(ty:TypeId)(sz:Nat)(es:Xa1):Prop :=
 Wa P f/\∀ (M:Nat->Prop) (w:World) (vals:List Value),(∀ b,M b->b<w.heap.size)->RepL M g8 sD w vals args ->
  Calls P f vals.toArray w λe w'=>∃ v xs,e=.returned v/\w'.ownsRow w.heap.size ty sz v es.length xs/\(∀ u∈xs,u.oneCell'=true)/\RepL (λb=>M b\/v.ownBlock=some b) g8 sD w' xs es.flatten/\D.V es=true/\(∀ c∈es,c.length=sz) /\
   RowKit.Below w.heap.size w w'
def qF (H:AHeap):D->D
 | .tup vs=>.tup (vs.map (iS H))
 | d=>iS H d
def Bz:D->List Nat
 | .tup vs=>vs.flatMap dQ
 | d=>dQ d
section
variable {P:Program} {M0:Nat→Prop} {H:AHeap} {σ:Nat→Option Ow} {w:World}
theorem vC {v:Value}{d:D}(g:Rel M0 H σ w)(b:RepV (dD M0 H σ) σ H.H w v d)(a:List Nat)(f:∀ i∈Bz d,i∈a) :
  RepV (dD M0 (fJ a H) σ) σ (fJ a H).H w v (qF H d):=by
 cases d with
 | tup vs =>
  cases b
  rename_i h l k;refine .tup h _ (eL l) λj u x hu b=>?_;rw [aP,bN] at b;obtain ⟨y,e,rfl⟩:=b;exact nU g (k j u y hu e) a λi c=>f i (by simp only [Bz,cD];exact ⟨y,aM e,c⟩)
 | _=>exact nU g b a f
theorem Bi (M:Nat->Prop):dD M .an g8=M:=by
 funext b;exact propext ⟨λh=>h.elim (λh=>h) λ⟨_,_,_,h,_⟩=>by simp [AHeap.an] at h,.inl⟩
theorem Bg (M:Nat->Prop)(w:World)(hM:∀ b,M b->b<w.heap.size):Rel M .an g8 w :=
 ⟨λ_ _=>⟨rfl,rfl⟩,λ_ h=>h.elim,λ_ _ h=>by simp [AHeap.an] at h,λ_ _ _ _ _ h=>by simp [g8] at h,λ_ _ _ h=>by simp [g8] at h,hM⟩
theorem tQ {σ':Nat->Option Ow}{w':World}(h:Stp g8 w σ' w'):RowKit.Below w.heap.size w w' :=
 ⟨h.os,h.tape,h.output,h.size,λb hb=>h.bo b hb λ_ _ h=>by simp [g8] at h⟩
theorem aT {f:FuncId}{args:Xa2}{r:D}(h:ACalls P f args .an λd H'=>qF H' d=r/\r.W=true):Pure P f args r:=by
 refine ⟨h.1,λM w vals hM ha=>(h.2 M g8 w vals (Bg M w hM) (by rw [Bi];exact ha)).mono λe w' ⟨v,d,H',σ',k,m,g,a,n,j,b⟩=>⟨v,k,?_,tQ a⟩⟩;have c:=vC m g (Bz d) λi hi=>hi;rw [j] at c;exact c.be (λad u hm l=>⟨λh=>hm (.inl h),l⟩) b
theorem Dj {f:FuncId}{args:Xa2}{ty:TypeId}{sz:Nat}{es:Xa1}
  (h:ACalls P f args .an λd H'=>∃ id k,d=.own id es.length/\H'.get id=some k/\k.T=es/\k.ty=ty/\k.Z=sz/\k.fz=false/\D.V es=true):Own P f args ty sz es:=by
 refine ⟨h.1,λM w vals hM ha=>(h.2 M g8 w vals (Bg M w hM) (by rw [Bi];exact ha)).mono λe w' ⟨v,d,H',σ',K,L,H,n,Q,id,k,q,i,r,N,B,y,p⟩=>?_⟩;subst q;subst r;subst N;subst B;obtain ⟨o,x,l⟩:=L.ak id k i;obtain ⟨G,a,t,b⟩:=l.row;cases H
 rename_i _ _ m;rcases m o x with J|⟨_,rfl⟩
 .have:=l.ai;omega
 .refine ⟨o.val,G,K,?_,t,⟨b.len,λj u d hu q=>(b.ad j u d hu q).be (λad u hm A=>⟨λh=>hm (h.elim .inl λh=>.inr ⟨id,k,o,i,y,x,h⟩),A⟩) ?_⟩,p,λc A=>(l.J c A).trans l.Z,tQ n⟩
  .rw [<- l.Z];refine ⟨a.1,?_⟩;rcases a.2 with I|⟨g,E,C,r,_,B⟩
   .exact .inl I
   .refine .inr ⟨g,E,C,r,?_,B⟩;rcases n.new id o g x (by simp [Ow.block,r,Value.ownBlock]) with h|⟨_,O,h,_⟩
    .exact h
    .simp [g8] at h
  .obtain ⟨c,z,s⟩:=eR.1 (aM q);exact gM (lV p c z) d s
theorem AL {M:Nat->Prop}{N:Nat->Prop}:Keeps M g8 sD w M σ N w:=⟨λ_ _ h k=>⟨h,k⟩,λ_ _ h=>h.elim,λ_ h=>h.elim⟩
theorem dR {M M':Nat->Prop}{N N':Nat->Prop}{σ':Nat->Option Ow}(hM:∀ b,¬ M b->¬ M' b){vs:List Value}{ds:Xa2}(h:RepL M σ N w vs ds)(hc:D.N ds=true):RepL M' σ' N' w vs ds :=
 ⟨h.len,λj u d hu hd=>(h.ad j u d hu hd).be (λad u hm hc=>⟨hM _ hm,hc⟩) (gM hc d (aM hd))⟩
theorem sR (a:Rel M0 H σ w):∀ b,dD M0 H σ b->b<w.heap.size:=by
 rintro b (h|⟨i,k,o,_,_,c,d⟩)
 .exact a.m0 b h
 .exact (a.lt i o b c d).1
theorem tO {f:FuncId}{args:Xa2}{r:D}{Q:D->AHeap->Prop}(c:Pure P f args r)(b:D.N args=true)(i:Q r H):ACalls P f args H Q:=by
 refine ⟨c.1,λM0 σ w vals hR ha=>(c.2 (dD M0 H σ) w vals (sR hR) (dR (λ_ h=>h) ha b)).mono λe w' ⟨v,g,d,a⟩=>?_⟩;obtain ⟨l,k,j⟩:=hR.grow a.os a.tape a.output a.size a.block;exact ⟨v,r,H,σ,g,l,d.u AL,k,j,i⟩
theorem Am {M0:Nat->Prop}(hR:Rel M0 H σ w){vals:List Value}{args:Xa2}(ha:RepL (dD M0 H σ) σ H.H w vals args)(ids:List Nat)(hi:∀ i∈args.flatMap dQ,i∈ids) :
  RepL (dD M0 (fJ ids H) σ) σ (fJ ids H).H w vals (args.map (iS H)) :=
 ⟨by simpa using ha.len,λj u d hu hd=>by
  rw [aP,bN] at hd;obtain ⟨y,hy,rfl⟩:=hd;exact nU hR (ha.ad j u y hu hy) ids λi hii=>hi i (cD.2 ⟨y,aM hy,hii⟩)⟩
def D.cg:D->Bool
 | .int .. | .bool _ | .str _ | .nil | .nilp | .nilf=>true
 | _=>false
def D.az:D->Bool
 | .tup vs=>vs.all D.cg
 | d=>d.cg
theorem Lm {M c:Nat->Prop}{N b:Nat->Prop}{σ σ':Nat->Option Ow}{w w':World}{v:Value}{d:D}(h:RepV M σ N w v d)(a:d.cg=true):RepV c σ' b w' v d:=by
 cases h<;>first|(simp [D.cg] at a;done)|constructor
theorem AU {M g:Nat->Prop}{N f:Nat->Prop}{σ σ':Nat->Option Ow}{w w':World}{v:Value}{d:D}(h:RepV M σ N w v d)(a:d.az=true):RepV g σ' f w' v d:=by
 cases d with
 | tup vs =>
  cases h
  rename_i b e c;simp only [D.az,b6] at a;exact .tup b vs e λj u x hu hx=>Lm (c j u x hu hx) (a x (aM hx))
 | _=>exact Lm h a
theorem zG {f:FuncId}{args:Xa2}{r:D}{Q:D->AHeap->Prop}(c:Pure P f (args.map (iS H)) r)(b:D.N (args.map (iS H))=true)(g:r.az=true)(k:Q r H):ACalls P f args H Q:=by
 refine ⟨c.1,λM0 σ w vals hR ha=>?_⟩;obtain ⟨o,s,q,p⟩:=fW (args.flatMap dQ) hR;refine (c.2 (dD M0 (fJ (args.flatMap dQ) H) σ) w vals (sR o) (dR (λ_ h=>h) (Am hR ha _ λi h=>h) b)).mono λe w' ⟨v,j,d,a⟩=>?_;obtain ⟨n,m,l⟩:=hR.grow a.os a.tape a.output a.size a.block;exact ⟨v,r,H,σ,j,n,AU d g,m,l,k⟩
theorem Nr {f:FuncId}{args:Xa2}{r:D}{Q:D->AHeap->Prop}(c:Pure P f (args.map (iS H)) r)(b:D.N (args.map (iS H))=true)(k:Q r (fJ (args.flatMap dQ) H)):ACalls P f args H Q:=by
 refine ⟨c.1,λM0 σ w vals hR ha=>?_⟩;obtain ⟨d,o,q,p⟩:=fW (args.flatMap dQ) hR;refine (c.2 (dD M0 (fJ (args.flatMap dQ) H) σ) w vals (sR d) (dR (λ_ h=>h) (Am hR ha _ λi h=>h) b)).mono λe w' ⟨v,j,g,a⟩=>?_;obtain ⟨n,m,l⟩:=d.grow a.os a.tape a.output a.size a.block;exact ⟨v,r,_,σ,j,n,g.u AL,m,o.trans l,k⟩
theorem P4 {f:FuncId}{args:Xa2}{ty:TypeId}{sz:Nat}{es:Xa1}{Q:D->AHeap->Prop}(S:Own P f args ty sz es)(L:D.N args=true)
  (hQ:Q (.own H.next es.length) (H.push H.next ⟨ty,sz,es,false⟩)):ACalls P f args H Q:=by
 refine ⟨S.1,λM0 σ w vals hR ha=>(S.2 (dD M0 H σ) w vals (sR hR) (dR (λ_ h=>h) ha L)).mono λe w' ⟨v,O,he,k,N,y,A,I,C⟩=>?_⟩;have p:w'.ownsRow 0 ty sz v es.length O:=⟨k.1,k.2.imp (λx=>x) λ⟨g,s,r,a,b,c⟩=>⟨g,s,r,a,d9 _,c⟩⟩;have M:∀ b,v.ownBlock=some b->w.heap.size<=b:=λb j=>by
  rcases k.2 with E|⟨g,s,r,N,h2,h3⟩
  .rw [E.1] at j;simp [Value.ownBlock] at j
  .rw [N] at j;simp only [Value.ownBlock,aZ] at j;omega
 have hG:∀ F,¬ (dD M0 H σ F\/v.ownBlock=some F)->¬ dD M0 (H.push H.next ⟨ty,sz,es,false⟩) (λi=>if i=H.next then some ⟨es.length,v,sz,ty⟩ else σ i) F:=by
  intro F J h;rcases h with h|⟨i,Y,X,z,Z,m,j⟩
  .exact J (.inl (.inl h))
  .by_cases q:i=H.next
   .simp only [q,if_true,aZ] at m;subst m;exact J (.inr j)
   .simp only [q,if_false] at m;simp only [AHeap.push,q,if_false] at z;exact J (.inl (.inr ⟨i,Y,X,z,Z,m,j⟩))
 have B:D.N es.flatten=true:=sO λd hd=>by
  obtain ⟨c,K,G⟩:=eR.1 hd;exact gM (lV A c K) d G
 obtain ⟨W,V,U⟩:=Rel.cH hR H.next (λh=>pZ _ (hR.bp _ h)) (w':=w') C.os C.tape C.output C.size C.block ⟨ty,sz,es,false⟩ ⟨es.length,v,sz,ty⟩
  M rfl rfl rfl I O p N (λhk=>dR hG y B)
 exact ⟨v,_,_,_,he,W,.own v _ _ (.inl rfl) (by rcases k.2 with ⟨E,_⟩|⟨g,s,r,E,_⟩<;>simp [E,Value.oneCell']) (λo ho=>by simp at ho;subst ho;exact .inr ⟨rfl,rfl⟩),V,U,hQ⟩
end
end Go.Abs
end
section
namespace Go.Abs
inductive SOut where
 | op (o:AOut)
 | call (f:FuncId) (args:Xa2)
 | gop (t:Bool) (g:Bool) (o:AOut)
 | gcall (t:Bool) (g:Bool) (f:FuncId) (args:Xa2)
 | bad
def L7 (c:Option (FuncId × Xa2))(o:AOut):SOut :=
 match c with
 | some (f,args)=>.call f args
 | none=>.op o
def Jv (gc:Option (Bool × Bool))(b:Bool)(g:Bool)(c:Option (FuncId × Xa2))(o:AOut):SOut :=
 match gc with
 | some (t,c')=>match c with
  | some (f,args)=>.gcall (t&&(c'==b)) g f args
  | none=>.gop (t&&(c'==b)) g o
 | none=>.bad
def oH (P:Program)(md:Nat->Bool)(nid:Nat)(ops:Array Oper)(e:d7)(o:Oper)(H:AHeap):SOut :=
 match o.guard with
 | none=>L7 (iO e o) (GC P nid md e o H)
 | some (j,b)=>Jv (gD ops e j) b (Ua e (gO o.op)) (iO (gE e o.op) o) (GC P nid md (gE e o.op) o H)
def e8 (P:Program)(md:Nat->Bool)(ops:Array Oper)(rest:List Oper)(e:d7)(dst:Option Tmp)(K:d7->AHeap->Prop)(f:FuncId)(args:Xa2)(H:AHeap):Prop :=
 ACalls P f args H λv H1=>oO P md ops rest (pE e dst v) H1 K
def AS (P:Program)(md:Nat->Bool)(ops:Array Oper)(rest:List Oper)(e:d7)(dst:Option Tmp)(K:d7->AHeap->Prop)(t:Bool)(f:FuncId)(args:Xa2)(H:AHeap):Prop :=
 (∃ r S,(t=true->∀ H',gH S H' H->ACalls P f args H' λv H1=>v=r/\H1=H')/\oO P md ops rest (pE e dst (.opt t r)) H K) \/
  ((t=true->ACalls P f args H λv H1=>oO P md ops rest (pE e dst (.opt true v)) H1 K)/\(t=false->∃ r,oO P md ops rest (pE e dst (.opt false r)) H K))
def A1 (P:Program)(md:Nat->Bool)(ops:Array Oper)(rest:List Oper)(e:d7)(dst:Option Tmp)(H:AHeap)(K:d7->AHeap->Prop):SOut->Prop
 | .op o=>o.cond/\(o.ae->oO P md ops rest (pE e dst o.val) o.heap K)
 | .call f args=>e8 P md ops rest e dst K f args H
 | .gop t g o=>(t=true->g=true)/\(t=true->o.cond/\o.heap=H)/\((t=true->o.ae)->oO P md ops rest (pE e dst (.opt t o.val)) H K)
 | .gcall t g f args=>(t=true->g=true)/\AS P md ops rest e dst K t f args H
 | .bad=>False
theorem T8 (P:Program)(md:Nat->Bool)(ops:Array Oper)(o:Oper)(i:List Oper)(e:d7)(H:AHeap)(K:d7->AHeap->Prop) :
  oO P md ops (o :: i) e H K=A1 P md ops i e o.dst H K (oH P md H.next ops e o H):=by
 obtain ⟨dst,op,type,pos,after,guard⟩:=o;cases guard with
 | none =>
  simp only [oO,qZ,oH];cases m:iO e { dst:=dst,op:=op,type:=type,pos:=pos,after:=after,guard:=none } with
  | none=>simp [L7,A1]
  | some p=>simp [L7,A1,e8]
 | some p =>
  obtain ⟨j,b⟩:=p;simp only [oO,qZ,oH];cases n:gD ops e j with
  | none=>simp [Jv,A1]
  | some gc =>
   obtain ⟨t,q⟩:=gc;cases m:iO (gE e op) { dst:=dst,op:=op,type:=type,pos:=pos,after:=after,guard:=some (j,b) } with
   | none=>simp [Jv,A1]
   | some p=>simp [Jv,A1,AS]
@[go_sem] theorem aaL (P:Program)(md:Nat->Bool)(ops:Array Oper)(e:d7)(H:AHeap)(K:d7->AHeap->Prop):oO P md ops [] e H K=K e H:=rfl
@[go_sem] theorem adE (P:Program)(md:Nat->Bool)(ops:Array Oper)(rest:List Oper)(e:d7)(dst:Option Tmp)(H H':AHeap)(K:d7->AHeap->Prop)(c f:Prop)(v:D) :
 A1 P md ops rest e dst H K (.op ⟨c,f,v,H'⟩)=(c/\(f->oO P md ops rest (pE e dst v) H' K)):=rfl
@[go_sem] theorem Zi (P:Program)(md:Nat->Bool)(ops:Array Oper)(rest:List Oper)(e:d7)(dst:Option Tmp)(H:AHeap)(K:d7->AHeap->Prop)(f:FuncId)(args:Xa2) :
 A1 P md ops rest e dst H K (.call f args)=e8 P md ops rest e dst K f args H:=rfl
@[go_sem] theorem aaH (P:Program)(md:Nat->Bool)(ops:Array Oper)(rest:List Oper)(e:d7)(dst:Option Tmp)(H H':AHeap)(K:d7->AHeap->Prop)(c f:Prop)(v:D)(t g:Bool) :
 A1 P md ops rest e dst H K (.gop t g ⟨c,f,v,H'⟩)=((t=true->g=true)/\(t=true->c/\H'=H)/\((t=true->f)->oO P md ops rest (pE e dst (.opt t v)) H K)):=rfl
@[go_sem] theorem XL (P:Program)(md:Nat->Bool)(ops:Array Oper)(rest:List Oper)(e:d7)(dst:Option Tmp)(H:AHeap)(K:d7->AHeap->Prop)(f:FuncId)(args:Xa2)(t g:Bool) :
 A1 P md ops rest e dst H K (.gcall t g f args)=((t=true->g=true)/\AS P md ops rest e dst K t f args H):=rfl
@[go_sem] theorem ZG (f:FuncId)(args:Xa2)(o:AOut):L7 (some (f,args)) o=.call f args:=rfl
@[go_sem] theorem ZH (o:AOut):L7 none o=.op o:=rfl
@[go_sem] theorem aaR (e:d7)(d t:Nat)(v:D):pE e (some d) v t=if t=d then v else e t:=rfl
@[go_sem] theorem aaS (e:d7)(v:D):pE e none v=e:=rfl
def W0:List (Nat × D)->d7
 | []=>λ_=>.junk
 | (t,d) :: l=>λt'=>if t'=t then d else W0 l t'
@[go_sem] theorem adA (t:Nat):W0 [] t=.junk:=rfl
@[go_sem] theorem aaE (t:Nat)(d:D)(l:List (Nat × D))(t':Nat):W0 ((t,d) :: l) t'=if t'=t then d else W0 l t':=rfl
@[go_sem] theorem ac9 (t:Nat):DM [] t=.junk:=by simp [DM]
@[go_sem] theorem aaC (d:D)(l:Xa2):DM (d :: l) 0=d:=rfl
@[go_sem] theorem aaD (d:D)(l:Xa2)(t:Nat):DM (d :: l) (t+1)=DM l t:=by simp [DM]
@[go_sem] theorem ae9 (e:d7)(t:Nat):fG e (.tmp t)=e t:=rfl
@[go_sem] theorem ac7 (e:d7)(f:FuncId):fG e (.func f)=.fn f []:=rfl
@[go_sem] theorem afC (e:d7)(k:IntKind)(n:Int):fG e (.const (.int k n))=.int k n:=rfl
@[go_sem] theorem ac8 (e:d7)(b:Bool):fG e (.const (.bool b))=.bool b:=rfl
@[go_sem] theorem afA (e:d7)(b:ByteArray):fG e (.const (.string b))=.str b:=rfl
@[go_sem] theorem afB (e:d7):fG e (.const (.slice none 0 0))=.nil:=rfl
@[go_sem] theorem ac5 (e:d7):fG e (.const (.pointer none))=.nilp:=rfl
@[go_sem] theorem ac6 (e:d7):fG e (.const .nilFunc)=.nilf:=rfl
@[go_sem] theorem YJ:j7 (.const (.slice none 0 0))=true:=rfl
@[go_sem] theorem YH (t:Nat):j7 (.tmp t)=false:=rfl
@[go_sem] theorem YK (k:IntKind)(n:Int):j7 (.const (.int k n))=false:=rfl
@[go_sem] theorem XC (b:Bool):j7 (.const (.bool b))=false:=rfl
@[go_sem] theorem YI (b:ByteArray):j7 (.const (.string b))=false:=rfl
@[go_sem] theorem Xz:j7 (.const (.pointer none))=false:=rfl
@[go_sem] theorem XA:j7 (.const .nilFunc)=false:=rfl
@[go_sem] theorem XB (f:FuncId):j7 (.func f)=false:=rfl
@[go_sem] theorem acI (md:Nat->Bool)(t:Nat):CJ md (some t)=md t:=rfl
@[go_sem] theorem acJ (md:Nat->Bool):CJ md none=false:=rfl
section
variable (P:Program) (md:Nat→Bool) (nid:Nat) (ops:Array Oper) (e:d7) (d:Option Tmp) (ty:TypeId) (p:String) (af:Array Edge) (H:AHeap)
@[go_sem] theorem afT (x:Operand):oH P md nid ops e ⟨d,.move x,ty,p,af,none⟩ H=.op (if j7 x then Fa P nid (CJ md d) ty H else ⟨True,True,fG e x,H⟩):=rfl
@[go_sem] theorem aaX (x:Operand):oH P md nid ops e ⟨d,.assign x,ty,p,af,none⟩ H=.op (if j7 x then Fa P nid (CJ md d) ty H else ⟨True,True,fG e x,H⟩):=rfl
@[go_sem] theorem afS (c a b:Operand):oH P md nid ops e ⟨d,.pick c a b,ty,p,af,none⟩ H=.op (A9 (fG e c) (fG e a) (fG e b) H):=rfl
@[go_sem] theorem aeB (t:TypeId):oH P md nid ops e ⟨d,.alloc t,ty,p,af,none⟩ H=.op (zE P nid (CJ md d) t H):=rfl
@[go_sem] theorem ag8 (t:TypeId)(x:Operand):oH P md nid ops e ⟨d,.box t x,ty,p,af,none⟩ H=.op (Nl P nid (CJ md d) t (fG e x) H):=rfl
@[go_sem] theorem ad9 (t:TypeId)(ps:Array (Nat × Operand)):oH P md nid ops e ⟨d,.build t ps,ty,p,af,none⟩ H=.op (uW P t (ps.toList.map λp=>(p.1,fG e p.2)) H):=rfl
@[go_sem] theorem afG (md:Nat->Bool)(H:AHeap)(d:D):SI md H d=if md 1000001 then d else iS H d:=rfl
@[go_sem] theorem afF (md:Nat->Bool)(d:D):M7 md d=if md 1000001 then [] else dQ d:=rfl
@[go_sem] theorem Wl (t:TypeId)(n:Nat)(b:Array (Nat × Operand)):oH P md nid ops e ⟨d,.buildSlice t n b,ty,p,af,none⟩ H =
  .op (if md 1000001 then jO P nid (CJ md d) t n (b.toList.map λp=>(p.1,fG e p.2)) H else jO P nid (CJ md d) t n (b.toList.map λp=>(p.1,iS H (fG e p.2))) (fJ (b.toList.flatMap λp=>dQ (fG e p.2)) H)):=by
 show SOut.op (jO P nid (CJ md d) t n (b.toList.map λp=>(p.1,SI md H (fG e p.2))) (fJ (b.toList.flatMap λp=>M7 md (fG e p.2)) H))=_;cases h:md 1000001
 .simp [SI,M7,h]
 .simp only [SI,M7,h,if_true];rw [show (b.toList.flatMap λ_=>([]:List Nat))=[] by induction b.toList with|nil=>rfl|cons a l ih=>simp];rfl
@[go_sem] theorem afU (t:TypeId)(x:Operand):oH P md nid ops e ⟨d,.load t x,ty,p,af,none⟩ H=.op (o9 P t (fG e x) H):=rfl
@[go_sem] theorem ad5 (t:TypeId)(x y:Operand):oH P md nid ops e ⟨d,.store t x y,ty,p,af,none⟩ H =
 .op (if md 1000000 then nI P t (fG e x) (iS H (fG e y)) (fJ (dQ (fG e y)) H) else nI P t (fG e x) (fG e y) H):=rfl
@[go_sem] theorem Yd (x:Operand):oH P md nid ops e ⟨d,.nilCheck x,ty,p,af,none⟩ H=.op (kG (fG e x) H):=rfl
@[go_sem] theorem aeA (b:BinOp)(t t':TypeId)(x y:Operand):oH P md nid ops e ⟨d,.binOp b t x y t',ty,p,af,none⟩ H=.op (tN (md 2000000) P t b (fG e x) (fG e y) H):=rfl
@[go_sem] theorem ad0 (w:Bool)(P:Program)(t:TypeId)(x y:D)(H:AHeap):tN w P t .add x y H=Jf P t .add x y H:=by cases w<;>rfl
@[go_sem] theorem adT (w:Bool)(P:Program)(t:TypeId)(x y:D)(H:AHeap):tN w P t .mul x y H=Jf P t .mul x y H:=by cases w<;>rfl
@[go_sem] theorem adQ (w:Bool)(P:Program)(t:TypeId)(x y:D)(H:AHeap):tN w P t .quo x y H=Jf P t .quo x y H:=by cases w<;>rfl
@[go_sem] theorem adP (w:Bool)(P:Program)(t:TypeId)(x y:D)(H:AHeap):tN w P t .rem x y H=Jf P t .rem x y H:=by cases w<;>rfl
@[go_sem] theorem adY (w:Bool)(P:Program)(t:TypeId)(x y:D)(H:AHeap):tN w P t .eql x y H=Jf P t .eql x y H:=by cases w<;>rfl
@[go_sem] theorem adS (w:Bool)(P:Program)(t:TypeId)(x y:D)(H:AHeap):tN w P t .neq x y H=Jf P t .neq x y H:=by cases w<;>rfl
@[go_sem] theorem adU (w:Bool)(P:Program)(t:TypeId)(x y:D)(H:AHeap):tN w P t .lss x y H=Jf P t .lss x y H:=by cases w<;>rfl
@[go_sem] theorem adV (w:Bool)(P:Program)(t:TypeId)(x y:D)(H:AHeap):tN w P t .leq x y H=Jf P t .leq x y H:=by cases w<;>rfl
@[go_sem] theorem adW (w:Bool)(P:Program)(t:TypeId)(x y:D)(H:AHeap):tN w P t .gtr x y H=Jf P t .gtr x y H:=by cases w<;>rfl
@[go_sem] theorem adX (w:Bool)(P:Program)(t:TypeId)(x y:D)(H:AHeap):tN w P t .geq x y H=Jf P t .geq x y H:=by cases w<;>rfl
@[go_sem] theorem adZ (w:Bool)(P:Program)(t:TypeId)(x y:D)(H:AHeap):tN w P t .and x y H=Jf P t .and x y H:=by cases w<;>rfl
@[go_sem] theorem adO (w:Bool)(P:Program)(t:TypeId)(x y:D)(H:AHeap):tN w P t .shr x y H=Jf P t .shr x y H:=by cases w<;>rfl
@[go_sem] theorem adR (P:Program)(t:TypeId)(a:BinOp)(x y:D)(H:AHeap):tN false P t a x y H=Jf P t a x y H:=by cases a<;>cases x<;>cases y<;>rfl
@[go_sem] theorem adN (P:Program)(t:TypeId)(k k':IntKind)(a b:Int)(H:AHeap):tN true P t .sub (.int k a) (.int k' b) H=⟨k=k',True,.int k (k.wrap (a - b)),H⟩:=rfl
@[go_sem] theorem afR (u:UnOp)(t:TypeId)(x:Operand):oH P md nid ops e ⟨d,.unOp u t x,ty,p,af,none⟩ H=.op (VP u (fG e x) H):=rfl
@[go_sem] theorem ZJ (s t:TypeId)(x:Operand):oH P md nid ops e ⟨d,.convert s t x,ty,p,af,none⟩ H=.op (oD P s t (fG e x) H):=rfl
@[go_sem] theorem Ye (f:FuncId)(caps:Array Operand):oH P md nid ops e ⟨d,.makeFunc (.func f) #[] caps,ty,p,af,none⟩ H=.op ⟨True,True,.fn f (caps.toList.map (fG e)),H⟩:=rfl
@[go_sem] theorem Xo (t:TypeId)(l c:Operand):oH P md nid ops e ⟨d,.makeSlice t l c,ty,p,af,none⟩ H=.op (Ea P nid t (fG e l) (fG e c) H):=rfl
@[go_sem] theorem ad6 (t:TypeId)(x:Operand)(lo hi:Option Operand):oH P md nid ops e ⟨d,.slice t x lo hi none,ty,p,af,none⟩ H=.op (rX P t (fG e x) (lo.map (fG e)) (hi.map (fG e)) H):=rfl
@[go_sem] theorem Xq (t:TypeId)(x:Operand)(f:Nat):oH P md nid ops e ⟨d,.fieldAddr t x f,ty,p,af,none⟩ H=.op (i9 P t (fG e x) f H):=rfl
@[go_sem] theorem Xp (t:TypeId)(x i:Operand):oH P md nid ops e ⟨d,.indexAddr t x i,ty,p,af,none⟩ H=.op (i7 P t (fG e x) (fG e i) H):=rfl
@[go_sem] theorem ad7 (t:TypeId)(x i:Operand):oH P md nid ops e ⟨d,.index t x i,ty,p,af,none⟩ H=.op (uV P t (fG e x) (fG e i) H):=rfl
@[go_sem] theorem ZI (x:Operand)(i:Nat):oH P md nid ops e ⟨d,.extract x i,ty,p,af,none⟩ H=.op (oC (fG e x) i H):=rfl
@[go_sem] theorem ZK (b:Builtin)(args:Array Operand)(ts:Array TypeId):oH P md nid ops e ⟨d,.call ⟨.builtin b,args,ts⟩,ty,p,af,none⟩ H=.op (yF P nid b (args.toList.map (fG e)) ts.toList H):=rfl
@[go_sem] theorem afV (f:FuncId)(args:Array Operand)(ts:Array TypeId):oH P md nid ops e ⟨d,.call ⟨.value (.func f),args,ts⟩,ty,p,af,none⟩ H=.call f (args.toList.map (fG e)):=by
 simp [oH,iO,fG,L7]
end
@[go_sem] theorem Zw (P:Program)(md:Nat->Bool)(ops:Array Oper)(rest:List Oper)(e:d7)(H:AHeap)(K:d7->AHeap->Prop)(d:Option Tmp)(op:Op)(ty:TypeId)(p:String)(af:Array Edge)(g:Option (Nat × Bool)) :
 oO P md ops (⟨d,op,ty,p,af,g⟩ :: rest) e H K=A1 P md ops rest e d H K (oH P md H.next ops e ⟨d,op,ty,p,af,g⟩ H):=T8 P md ops _ rest e H K
/-! ### code -/
section
variable (P:Program) (c:Cfg) (Q:Exit→d7→AHeap→Prop) (e:d7) (H:AHeap)
def zP (P:Program)(c:Cfg)(a b:Code)(Q:Exit->d7->AHeap->Prop)(e:d7)(H:AHeap):D->Prop
 | .bool t=>(t=true->p7 P c a Q e H)/\(t=false->p7 P c b Q e H)
 | _=>False
def BW (P:Program)(c:Cfg)(b:Code)(Q:Exit->d7->AHeap->Prop)(e:d7)(H:AHeap):Prop:=p7 P c (.loop b) Q e H
@[go_sem] theorem afK:p7 P c .skip Q e H=Q .normal e H:=rfl
@[go_sem] theorem aaP (a:Nat)(l:List Oper):p7 P c (.region a l.toArray false) Q e H=oO P c.own l.toArray l e H (Q .normal):=by
 simp [p7]
@[go_sem] theorem afN (a:Nat)(l:List Oper):p7 P c (.region a l.toArray true) Q e H=j5 P c.own l.toArray (c.sp a) H.next 0 l [] e ⟨H.next+l.length,H.H,H.get⟩ (Q .normal):=by
 simp [p7]
@[go_sem] theorem ag3 (a b:Code):p7 P c (.seq a b) Q e H=p7 P c a (u6 (p7 P c b Q) Q) e H:=rfl
@[go_sem] theorem afO (x:Operand)(a b:Code):p7 P c (.cond x a b) Q e H=zP P c a b Q e H (fG e x):=rfl
@[go_sem] theorem ad2 (id:Nat)(b:Code):p7 P c (.block id b) Q e H=p7 P c b (CG id Q) e H:=rfl
@[go_sem] theorem afL (b:Code):p7 P c (.loop b) Q e H=BW P c b Q e H:=rfl
@[go_sem] theorem afM (id:Nat):p7 P c (.exit id) Q e H=Q (.exit id) e H:=rfl
@[go_sem] theorem ag4:p7 P c .ret Q e H=Q .ret e H:=rfl
@[go_sem] theorem Zk (a b:Code):zP P c a b Q e H (.bool true)=p7 P c a Q e H:=by simp [zP]
@[go_sem] theorem XM (a b:Code):zP P c a b Q e H (.bool false)=p7 P c b Q e H:=by simp [zP]
@[go_sem] theorem Wj (n:d7->AHeap->Prop):u6 n Q .normal e H=n e H:=rfl
@[go_sem] theorem ZA (n:d7->AHeap->Prop):u6 n Q .ret e H=Q .ret e H:=rfl
@[go_sem] theorem X6 (n:d7->AHeap->Prop)(i:Nat):u6 n Q (.exit i) e H=Q (.exit i) e H:=rfl
@[go_sem] theorem V5 (i:Nat):CG i Q .normal e H=Q .normal e H:=rfl
@[go_sem] theorem Zp (i:Nat):CG i Q .ret e H=Q .ret e H:=rfl
@[go_sem] theorem PP (i j:Nat):CG i Q (.exit j) e H=if j=i then Q .normal e H else Q (.exit j) e H:=rfl
@[go_sem] theorem abP (rs:List ResultVar)(R:D->AHeap->Prop):S9 P rs R .ret e H=D8 P rs e H λl=>R (G2 l) H:=rfl
@[go_sem] theorem Xr (rs:List ResultVar)(R:D->AHeap->Prop):S9 P rs R .normal e H=D8 P rs e H λl=>R (G2 l) H:=rfl
@[go_sem] theorem adM (K:Xa2->Prop):D8 P [] e H K=K []:=rfl
@[go_sem] theorem adL (t:Tmp)(r:List ResultVar)(K:Xa2->Prop):D8 P (.tmp t :: r) e H K=D8 P r e H λl=>K (e t :: l):=rfl
@[go_sem] theorem aaK (a:Tmp)(t:TypeId)(r:List ResultVar)(K:Xa2->Prop):D8 P (.cell a t :: r) e H K=((o9 P t (e a) H).cond/\D8 P r e H λl=>K ((o9 P t (e a) H).val :: l)):=rfl
@[go_sem] theorem aaU (d:D):G2 [d]=d:=rfl
end
attribute [go_sem] if_true if_false fC Bool.true_eq_false eq_self true_and and_true forall_const true_implies false_implies jJ gJ List.toList_toArray eV Option.map_none
 Kh zX cZ dS oX e9 implies_true
attribute [go_sem] Ke Jf o9 nI eP i9 i7 GE lM q6 Ea Nl zE uW jO rX uV oD A9 wQ D9 kG VP oC Fa yF wR qY fJ AOut.bad
 qT fT D.cells BY BK.ct VY ite_self
@[go_sem] theorem ae6 (id:Nat):AHeap.an.get id=none:=rfl
@[go_sem] theorem acH:AHeap.an.next=0:=rfl
@[go_sem] theorem ac0 (H:AHeap)(i j:Nat)(k:Blk):(H.push i k).get j=if j=i then some k else H.get j:=rfl
@[go_sem] theorem ae4 (H:AHeap)(i j:Nat)(k:Blk):(H.put i k).get j=if j=i then some k else H.get j:=rfl
@[go_sem] theorem Z1 (H:AHeap)(i:Nat)(k:Blk):(H.push i k).next=if i<H.next then H.next else i+1:=rfl
@[go_sem] theorem acF (H:AHeap)(i:Nat)(k:Blk):(H.put i k).next=H.next:=rfl
@[go_sem] theorem ac1 (n:Nat)(al:Nat->Prop)(g:Nat->Option Blk)(j:Nat):(AHeap.mk n al g).get j=g j:=rfl
@[go_sem] theorem Z2 (n:Nat)(al:Nat->Prop)(g:Nat->Option Blk):(AHeap.mk n al g).next=n:=rfl
section
variable (H:AHeap)
@[go_sem] theorem abK (k:IntKind)(n:Int):fN H (.int k n)=.int k n:=rfl
@[go_sem] theorem ZW (b:Bool):fN H (.bool b)=.bool b:=rfl
@[go_sem] theorem abH (b:ByteArray):fN H (.str b)=.str b:=rfl
@[go_sem] theorem abJ:fN H .nil=.nil:=rfl
@[go_sem] theorem ZV (es:Xa1):fN H (.list es)=.list es:=rfl
@[go_sem] theorem abL (es:Xa2):fN H (.adr es)=.adr es:=rfl
@[go_sem] theorem ZT:fN H .nilp=.nilp:=rfl
@[go_sem] theorem ZU:fN H .nilf=.nilf:=rfl
@[go_sem] theorem aeE (f:FuncId)(l:Xa2):fN H (.fn f l)=.fn f l:=rfl
@[go_sem] theorem abI (id n:Nat):fN H (.own id n)=match H.get id with|some k=>if k.T.length=n then .list k.T else .own id n|none=>.own id n:=rfl
@[go_sem] theorem abG (id n lo hi:Nat):fN H (.win id n lo hi)=match H.get id with|some k=>if k.T.length=n then .list ((k.T.take hi).drop lo) else .win id n lo hi|none=>.win id n lo hi:=rfl
@[go_sem] theorem aa8 (id n lo hi:Nat):iS H (.win id n lo hi)=fN H (.win id n lo hi):=rfl
@[go_sem] theorem aa0 (id n lo hi:Nat):qF H (.win id n lo hi)=fN H (.win id n lo hi):=rfl
@[go_sem] theorem abD (k:IntKind)(n:Int):iS H (.int k n)=.int k n:=rfl
@[go_sem] theorem ZS (b:Bool):iS H (.bool b)=.bool b:=rfl
@[go_sem] theorem aa9 (b:ByteArray):iS H (.str b)=.str b:=rfl
@[go_sem] theorem abC:iS H .nil=.nil:=rfl
@[go_sem] theorem ZR (es:Xa1):iS H (.list es)=.list es:=rfl
@[go_sem] theorem abF (es:Xa2):iS H (.adr es)=.adr es:=rfl
@[go_sem] theorem ZP:iS H .nilp=.nilp:=rfl
@[go_sem] theorem ZQ:iS H .nilf=.nilf:=rfl
@[go_sem] theorem aeD (f:FuncId)(l:Xa2):iS H (.fn f l)=.fn f l:=rfl
@[go_sem] theorem abE (l:Xa2):iS H (.agg l)=.agg (l.map (fN H)):=rfl
@[go_sem] theorem abB (id n:Nat):iS H (.own id n)=fN H (.own id n):=rfl
@[go_sem] theorem aa1 (l:Xa2):qF H (.tup l)=.tup (l.map (iS H)):=rfl
@[go_sem] theorem aa5 (k:IntKind)(n:Int):qF H (.int k n)=.int k n:=rfl
@[go_sem] theorem ZO (b:Bool):qF H (.bool b)=.bool b:=rfl
@[go_sem] theorem aa2 (b:ByteArray):qF H (.str b)=.str b:=rfl
@[go_sem] theorem aa4:qF H .nil=.nil:=rfl
@[go_sem] theorem ZN (es:Xa1):qF H (.list es)=.list es:=rfl
@[go_sem] theorem aa7 (es:Xa2):qF H (.adr es)=.adr es:=rfl
@[go_sem] theorem ZL:qF H .nilp=.nilp:=rfl
@[go_sem] theorem ZM:qF H .nilf=.nilf:=rfl
@[go_sem] theorem aeC (f:FuncId)(l:Xa2):qF H (.fn f l)=.fn f l:=rfl
@[go_sem] theorem aa6 (l:Xa2):qF H (.agg l)=.agg (l.map (fN H)):=rfl
@[go_sem] theorem aa3 (id n:Nat):qF H (.own id n)=fN H (.own id n):=rfl
end
@[go_sem] theorem acV (k:IntKind)(n:Int):lR (.int k n)=[]:=rfl
@[go_sem] theorem Z7 (b:Bool):lR (.bool b)=[]:=rfl
@[go_sem] theorem acS (b:ByteArray):lR (.str b)=[]:=rfl
@[go_sem] theorem acU:lR .nil=[]:=rfl
@[go_sem] theorem Z6 (es:Xa1):lR (.list es)=[]:=rfl
@[go_sem] theorem acW (es:Xa2):lR (.adr es)=[]:=rfl
@[go_sem] theorem Z4:lR .nilp=[]:=rfl
@[go_sem] theorem Z5:lR .nilf=[]:=rfl
@[go_sem] theorem aeX (f:FuncId)(l:Xa2):lR (.fn f l)=[]:=rfl
@[go_sem] theorem acR (id n lo hi:Nat):lR (.win id n lo hi)=[id]:=rfl
@[go_sem] theorem Yl (id n lo hi:Nat):dQ (.win id n lo hi)=[id]:=rfl
@[go_sem] theorem acT (id n:Nat):lR (.own id n)=[id]:=rfl
@[go_sem] theorem Yq (k:IntKind)(n:Int):dQ (.int k n)=[]:=rfl
@[go_sem] theorem Xv (b:Bool):dQ (.bool b)=[]:=rfl
@[go_sem] theorem Ym (b:ByteArray):dQ (.str b)=[]:=rfl
@[go_sem] theorem Yp:dQ .nil=[]:=rfl
@[go_sem] theorem Xu (es:Xa1):dQ (.list es)=[]:=rfl
@[go_sem] theorem Ys (es:Xa2):dQ (.adr es)=[]:=rfl
@[go_sem] theorem Xs:dQ .nilp=[]:=rfl
@[go_sem] theorem Xt:dQ .nilf=[]:=rfl
@[go_sem] theorem ZZ (f:FuncId)(l:Xa2):dQ (.fn f l)=[]:=rfl
@[go_sem] theorem Yo (id n:Nat):dQ (.own id n)=[id]:=rfl
@[go_sem] theorem Yr (l:Xa2):dQ (.agg l)=l.flatMap lR:=rfl
@[go_sem] theorem ac3 (H:AHeap)(id:Nat):H.a7 id=match H.get id with|some k=>H.put id { k with fz:=true } | none=>H:=rfl
@[go_sem] theorem abR (H:AHeap)(a:Nat)(k b:Blk):(H.push a k).put a b=H.push a b:=by
 unfold AHeap.push AHeap.put;grind
@[go_sem] theorem aeF (H:AHeap)(a:Nat)(k b:Blk):(H.put a k).put a b=H.put a b:=by
 unfold AHeap.put;grind
section
variable {P:Program} {c:Cfg} {Q:Exit→d7→AHeap→Prop} {e:d7} {H:AHeap} {a b:Code}
theorem bA {t:Bool}(h1:t=true->p7 P c a Q e H)(h2:t=false->p7 P c b Q e H):zP P c a b Q e H (.bool t):=⟨h1,h2⟩
theorem f6 {p:Prop}[Decidable p](h1:p->p7 P c a Q e H)(h2:¬ p->p7 P c b Q e H):zP P c a b Q e H (.bool (decide p)):=⟨λh=>h1 (of_decide_eq_true h),λh=>h2 (of_decide_eq_false h)⟩
end
attribute [irreducible] zP e8 AS BW
end Go.Abs
end
section
namespace Go.Abs
section
variable {P:Program} {c:Cfg} {md:Nat→Bool}
theorem Jd {t:Option Nat}{nid:Nat}{ops:Array Oper}{e:d7}{o:Oper}{H:AHeap}{K K':D->AHeap->List Nat->Prop}(d:∀ v H F,K v H F->K' v H F)(h:qZ P md t nid ops e o H K):qZ P md t nid ops e o H K':=by
 unfold qZ at h ⊢;cases x:o.guard with
 | none =>
  simp only [x] at h ⊢;cases k:iO e o with
  | none=>simp only [k] at h ⊢;exact ⟨h.1,λhf=>d _ _ _ (h.2 hf)⟩
  | some p =>
   obtain ⟨f,s⟩:=p;simp only [k] at h ⊢;cases t with
   | none=>exact h.mono λ_ _ h=>d _ _ _ h
   | some m =>
    rcases h with ⟨r,S,y,c⟩|⟨z,r,S,u,q,A,hq,y,c⟩
    .exact .inl ⟨r,S,y,d _ _ _ c⟩
    grind
 | some p =>
  obtain ⟨j,b⟩:=p;simp only [x] at h ⊢;cases i:gD ops e j with
  | none=>simp only [i] at h
  | some gc =>
   obtain ⟨g,B⟩:=gc;simp only [i] at h ⊢;refine ⟨h.1,?_⟩;have c:=h.2;cases k:iO (gE e o.op) o with
   | none=>simp only [k] at c ⊢;exact ⟨c.1,λhf=>d _ _ _ (c.2 hf)⟩
   | some p =>
    obtain ⟨f,s⟩:=p;simp only [k] at c ⊢;cases t with
    | some _=>obtain ⟨r,S,n,l⟩:=c;exact ⟨r,S,n,d _ _ _ l⟩
    | none =>
     rcases c with ⟨r,S,n,l⟩|⟨n,l⟩
     .exact .inl ⟨r,S,n,d _ _ _ l⟩
     .exact .inr ⟨λhq=>(n hq).mono λ_ _ h=>d _ _ _ h,λhq=>(l hq).imp λ_ h=>d _ _ _ h⟩
theorem LK {ops:Array Oper}{K K':d7->AHeap->Prop}(hk:∀ e H,K e H->K' e H):∀ (l:List Oper) (e:d7) (H:AHeap),oO P md ops l e H K->oO P md ops l e H K'
 | [],e,H,h=>hk _ _ h
 | o :: l,e,H,h=>by
  unfold oO at h ⊢;exact Jd (λv H' _ h=>LK hk l _ _ h) h
theorem Jg {ops:Array Oper}{sp:List (Nat × Nat)}{n0:Nat}{K K':d7->AHeap->Prop}(hk:∀ e H,K e H->K' e H):∀ (l:List Oper) (i:Nat) (acc:List (Nat × List Nat)) (e:d7) (H:AHeap),
  j5 P md ops sp n0 i l acc e H K->j5 P md ops sp n0 i l acc e H K'
 | [],i,acc,e,H,h=>by unfold j5 at h ⊢;exact hk _ _ h
 | o :: l,i,acc,e,H,h=>by
  unfold j5 at h ⊢;exact Jd (λv H' _ h=>⟨h.1,Jg hk l _ _ _ _ h.2⟩) h
theorem yL {n a:d7->AHeap->Prop}{Q b:Exit->d7->AHeap->Prop}(d:∀ e H,n e H->a e H)(c:∀ x e H,Q x e H->b x e H):∀ x e H,u6 n Q x e H->u6 a b x e H:=by
 intro x e H h;cases x<;>first|exact d _ _ h|exact c _ _ _ h
theorem PO {i:Nat}{Q a:Exit->d7->AHeap->Prop}(b:∀ x e H,Q x e H->a x e H):∀ x e H,CG i Q x e H->CG i a x e H:=by
 intro x e H h;cases x<;>first|exact b _ _ _ h|skip
 rename_i j;rw [PP] at h ⊢;grind
theorem sP:∀ (x:Code) {Q Q':Exit->d7->AHeap->Prop} (hq:∀ x e H,Q x e H->Q' x e H) (e:d7) (H:AHeap),p7 P c x Q e H->p7 P c x Q' e H
 | .skip,Q,Q',hq,e,H,h=>hq _ _ _ h
 | .region id ops dr,Q,Q',hq,e,H,h=>by
  unfold p7 at h ⊢;cases dr with
  | false=>simp only [fC,if_false] at h ⊢;exact LK (λe H h=>hq _ _ _ h) _ _ _ h
  | true=>simp only [if_true] at h ⊢;exact Jg (λe H h=>hq _ _ _ h) _ _ _ _ _ h
 | .seq a b,Q,Q',hq,e,H,h=>by
  unfold p7 at h ⊢;exact sP a (yL (λe H h=>sP b hq e H h) hq) e H h
 | .cond x a b,Q,Q',hq,e,H,h=>by
  unfold p7 at h ⊢;cases hv:fG e x<;>simp only [hv] at h ⊢<;>try (exact h.elim)
  exact ⟨λht=>sP a hq e H (h.1 ht),λht=>sP b hq e H (h.2 ht)⟩
 | .block id b,Q,Q',hq,e,H,h=>by
  unfold p7 at h ⊢;exact sP b (PO hq) e H h
 | .loop b,Q,Q',hq,e,H,h=>by
  unfold p7 at h ⊢;obtain ⟨I,h0,hI⟩:=h;exact ⟨I,h0,λk e' H' hi=>sP b (yL (λ_ _ h=>h) hq) _ _ (hI k e' H' hi)⟩
 | .exit id,Q,Q',hq,e,H,h=>hq _ _ _ h
 | .ret,Q,Q',hq,e,H,h=>hq _ _ _ h
 | .rangeFunc ..,Q,Q',hq,e,H,h=>h.elim
 | .scope ..,Q,Q',hq,e,H,h=>h.elim
 | .label ..,Q,Q',hq,e,H,h=>h.elim
 | .goto ..,Q,Q',hq,e,H,h=>h.elim
 | .refuse ..,Q,Q',hq,e,H,h=>h.elim
theorem fR {b:Code}{Q:Exit->d7->AHeap->Prop}{e:d7}{H:AHeap}{ι:Type}(I:ι->d7->AHeap->Prop)(μ:ι->Nat)(g:ι)(m:I g e H)
  (j:∀ x e H,I x e H->p7 P c b (u6 (λe' H'=>∃ x',μ x'<μ x/\I x' e' H') Q) e H):BW P c b Q e H:=by
 unfold BW p7;refine ⟨λk e H=>∃ x,μ x=k/\I x e H,⟨H,.refl H,_,g,rfl,m⟩,λk e' H' ⟨x,l,i⟩=>sP b (yL (λe'' f ⟨x',d,a⟩=>⟨f,.refl _,_,l ▸ d,x',rfl,a⟩) λ_ _ _ h=>h) _ _ (j x e' H' i)⟩
theorem Du {b:Code}{Q:Exit->d7->AHeap->Prop}{e:d7}{H H':AHeap}(m:Ghosts H H'){ι:Type}(I:ι->d7->AHeap->Prop)(μ:ι->Nat)(g:ι)(n:I g e H')
  (j:∀ x e H,I x e H->p7 P c b (u6 (λe' H'=>∃ H3,Ghosts H' H3/\∃ x',μ x'<μ x/\I x' e' H3) Q) e H):BW P c b Q e H:=by
 unfold BW p7;refine ⟨λk e H=>∃ x,μ x=k/\I x e H,⟨H',m,_,g,rfl,n⟩,λk e' H' ⟨x,l,i⟩=>sP b (yL (λe'' H'' ⟨H3,f,x',d,a⟩=>⟨H3,f,_,l ▸ d,x',rfl,a⟩) λ_ _ _ h=>h) _ _ (j x e' H' i)⟩
theorem aB {ops:Array Oper}{a:List Oper}{e:d7}{b:Option Tmp}{K:d7->AHeap->Prop}{f:FuncId}{args:Xa2}{H:AHeap}{r:D}(d:Pure P f args r)(c:D.N args=true)
 (h:oO P md ops a (pE e b r) H K):e8 P md ops a e b K f args H:=by grind [e8, tO]
theorem d8 {ops:Array Oper}{a:List Oper}{e:d7}{b:Option Tmp}{K:d7->AHeap->Prop}{f:FuncId}{args args':Xa2}{H:AHeap}{r:D}(d:Pure P f args' r)(i:args.map (iS H)=args')(c:D.N args'=true)(g:r.az=true)
 (h:oO P md ops a (pE e b r) H K):e8 P md ops a e b K f args H:=by grind [e8, zG]
theorem i5 {ops:Array Oper}{a:List Oper}{e:d7}{b:Option Tmp}{K:d7->AHeap->Prop}{f:FuncId}{args:Xa2}{H:AHeap}{ty:TypeId}{sz:Nat}{es:Xa1}(d:Own P f args ty sz es)(c:D.N args=true)
 (h:oO P md ops a (pE e b (.own H.next es.length)) (H.push H.next ⟨ty,sz,es,false⟩) K):e8 P md ops a e b K f args H:=by grind [e8, P4]
end
end Go.Abs
end
