/- The abstraction layer, part S: whole bodies, functions, cont -/
import Derived.Test.YtpdanmkcpjdmjaaGreatZkAD
set_option linter.unusedVariables false
set_option linter.unusedSimpArgs false
section
namespace Go.Abs
abbrev eF:=Nat->D
structure Cfg where
 own:Nat->Bool
 sp:Nat->List (Nat × Nat)
def IM (H:AHeap)(id i off:Nat)(ty sz:Nat):AHeap :=
 match H.get id with
 | some k=>(H.put id { k with U:=k.U.set i ((k.U[i]?.getD []).set off (.own H.next 0)) }).push H.next ⟨ty,sz,[],false⟩
 | none=>H
def AHeap.drop (H:AHeap)(id:Nat):AHeap:=⟨H.next,H.F,λi=>if i=id then none else H.get i⟩
def Cf (H:AHeap)(id i off q hi:Nat):AHeap :=
 match H.get id,H.get q with
 | some k,some kq=>(((H.drop q).push H.next ⟨kq.ty,kq.Y,kq.U.take hi,false⟩).put id { k with U:=k.U.set i ((k.U[i]?.getD []).set off (.own H.next hi)) })
 | _,_=>H
inductive Ghosts:AHeap->AHeap->Prop
 | refl (H:AHeap):Ghosts H H
 | trunc {H H1:AHeap} (h:Ghosts H H1) (id i off q hi:Nat) (k kq:Blk) (c:UN) (hk:H1.get id=some k) (hf:k.fz=false) (hc:k.U[i]?=some c) (hq:H1.get q=some kq) (hn:c[off]?=some (.win q kq.U.length 0 hi)) (hqf:kq.fz=false) (hne:id≠q):Ghosts H (Cf H1 id i off q hi)
 | step {H H1:AHeap} (h:Ghosts H H1) (id i off ty sz:Nat) (k:Blk) (c:UN) (hk:H1.get id=some k) (hf:k.fz=false) (hc:k.U[i]?=some c) (hn:c[off]?=some .nil):Ghosts H (IM H1 id i off ty sz)
def uU (next:eF->AHeap->Prop)(Q:Exit->eF->AHeap->Prop):Exit->eF->AHeap->Prop
 | .normal,e,H=>next e H
 | ex,e,H=>Q ex e H
def Cs (id:Nat)(Q:Exit->eF->AHeap->Prop):Exit->eF->AHeap->Prop
 | .exit id',e,H=>if id'=id then Q .normal e H else Q (.exit id') e H
 | ex,e,H=>Q ex e H
def pD (P:Program)(c:Cfg):Code->(Exit->eF->AHeap->Prop)->eF->AHeap->Prop
 | .skip,Q,e,H=>Q .normal e H
 | .region id ops dr,Q,e,H =>
  if dr then j9 P c.own ops (c.sp id) H.next 0 ops.toList [] e { H with next:=H.next+ops.size } (Q .normal)
  else nX P c.own ops ops.toList e H (Q .normal)
 | .seq a b,Q,e,H=>pD P c a (uU (pD P c b Q) Q) e H
 | .cond x a b,Q,e,H=>match fC e x with
  | .bool t=>(t=true->pD P c a Q e H)/\(t=false->pD P c b Q e H)
  | _=>False
 | .block id b,Q,e,H=>pD P c b (Cs id Q) e H
 | .loop b,Q,e,H=>∃ I:Nat->eF->AHeap->Prop,(∃ H',Ghosts H H'/\∃ k,I k e H')/\∀ k e' H',I k e' H'->pD P c b (uU (λe'' H''=>∃ H3,Ghosts H'' H3/\∃ k',k'<k/\I k' e'' H3) Q) e' H'
 | .exit id,Q,e,H=>Q (.exit id) e H
 | .ret,Q,e,H=>Q .ret e H
 | _,_,_,_=>False
def qB (c:Cfg)(n:Nat):Code->Bool
 | .region id ops dr=>(ops.toList.all λo=>sF n o.dst)&&(!dr||x7 c.own ops (c.sp id))
 | .seq a b=>qB c n a&&qB c n b
 | .cond _ a b=>qB c n a&&qB c n b
 | .block _ b=>qB c n b
 | .loop b=>qB c n b
 | _=>true
section
variable {P:Program} {c:Cfg} {n:Nat} {M0:Nat→Prop}
theorem iS {x:Code}{Q Q':Exit->Act->World->Prop}{a:Act}{w:World}(h:x.wp P Q a w)(hq:∀ e a w,Q e a w->Q' e a w):x.wp P Q' a w:=wp_mono h hq
theorem gC {p:Nat->Prop}(h:∃ k,p k):∃ k,p k/\∀ j,j<k->¬ p j:=by
 obtain ⟨k,hk⟩:=h;induction k using Nat.strongRecOn with
 | _ k ih =>
  grind
def Tb (n:Nat)(M0:Nat->Prop)(H0:AHeap)(σ0:Nat->Option Ow)(w0:World)(Q:Exit->eF->AHeap->Prop)(ex:Exit)(a:Act)(w:World):Prop:=Came n M0 H0 σ0 w0 (Q ex) a w
theorem yU {sz:Nat}(d:D)(off:Nat)(c:UN):∀ (es:UE) (i:Nat),(∀ c∈es,c.length=sz)->es[i]?=some c->off<sz->(es.set i (c.set off d)).flatten=es.flatten.set (i * sz+off) d
 | [],i,_,h,_=>by simp at h
 | a :: es,0,hl,h,ho=>by
  simp at h;subst h;have:=hl a dB;simp only [wP,e8,Nat.zero_mul,eR];rw [List.set_append_left _ _ aD]
 | a :: es,i+1,hl,h,ho=>by
  have ha:=hl a dB;simp at h;have ih:=yU d off c es i (λc hc=>hl c (by simp [hc])) h ho;simp only [Fc,e8,ih];rw [mT _ _ (by rw [Nat.add_mul];omega)];congr 2;rw [ha,Nat.add_mul];omega
theorem PF {H:AHeap}{σ:Nat->Option Ow}{w:World}(B:Rel M0 H σ w){f i a ty sz:Nat}{k:Blk}{m:UN}(z:H.get f=some k)(X:k.fz=false)(r:k.U[i]?=some m)(hn:m[a]?=some .nil) :
  ∃ σ',Rel M0 (IM H f i a ty sz) σ' w/\Stp σ w σ' w/\Keeps (dJ M0 H σ) σ H.F w (dJ M0 (IM H f i a ty sz) σ') σ' (IM H f i a ty sz).F w:=by
 have A:¬ H.F H.next:=λh=>mS _ (B.bf _ h);have I:H.F f:=bB λhn=>by rw [(B.bp f hn).2] at z;cases z
 have y:f≠H.next:=λh=>A (h ▸ I);obtain ⟨S,R,M⟩:=Rel.push B H.next A (w':=w) rfl rfl rfl (aZ _) (λ_ _=>rfl) ⟨ty,sz,[],false⟩ ⟨0,.slice none 0 0,sz,ty⟩ (λb hb=>by simp [Ow.block,Value.ownBlock] at hb) rfl rfl rfl (λc r=>by simp at r) []
  ⟨by simp,.inl ⟨rfl,rfl⟩⟩ dB ⟨rfl,λj u d hu=>by simp at hu⟩
 obtain ⟨o,U,l⟩:=B.ah f k z;obtain ⟨N,t,C,v⟩:=l.row;have G:(H.push H.next ⟨ty,sz,[],false⟩).get f=some k:=by simp [AHeap.push,y,z]
 have E:(λi=>if i=H.next then some (⟨0,.slice none 0 0,sz,ty⟩:Ow) else σ i) f=some o:=by simp [y,U]
 have n:=l.H m (aL r);have g:a<o.H:=by rw [<- n];exact (aP.1 hn).1
 have p:∀ c∈k.U.set i (m.set a (.own H.next 0)),c.length=o.H:=λc K=>by
  rcases nM K with h|h
  .exact l.H c h
  grind
 have J:=yU (D.own H.next 0) a m k.U i l.H r g;obtain ⟨Q,P,O⟩:=Rel.put S G X E { k with U:=k.U.set i (m.set a (.own H.next 0)) } o ⟨rfl,rfl,rfl,aZ _,λ_ _ _=>rfl⟩ (λb hb=>.inl hb) (.inl rfl) (by simp [l.af]) l.ty l.Y p N (eQ t) C (by
   have e:=v.q M;simp only;rw [J];refine ⟨by simpa using e.len,λj u d hu q=>?_⟩;rw [dA] at q;split at q
   .rename_i V;split at q
    .cases q
     have x:k.U.flatten[j]?=some .nil:=by
      rw [<- V,nE k.U i m l.H r a g];exact hn
     have T:=e.Z j u _ hu x;cases T
     exact .own _ _ _ (.inl rfl) rfl λo' ho'=>by simp at ho';subst ho';exact .inr ⟨rfl,rfl⟩
    .cases q
   .exact e.Z j u d hu q)
 have W:IM H f i a ty sz=(H.push H.next ⟨ty,sz,[],false⟩).put f { k with U:=k.U.set i (m.set a (.own H.next 0)) }:=by
  simp only [IM,z,r,Option.getD_some];unfold AHeap.push AHeap.put;grind
 rw [W];exact ⟨_,Q,R.trans P,M.trans O⟩
theorem Ed {sz:Nat}:∀ (es:UE) (n:Nat),(∀ c∈es,c.length=sz)->(es.take n).flatten=es.flatten.take (n * sz)
 | [],n,_=>by simp
 | a :: es,0,_=>by simp
 | a :: es,n+1,h=>by
  have ha:=h a dB;rw [uP,e8,e8,Ed es n λc hc=>h c (by simp [hc]),Nat.add_mul,Nat.one_mul,Nat.add_comm,<- ha,List.take_length_add_append]
theorem Tl {H:AHeap}{σ:Nat->Option Ow}{w:World}(hR:Rel M0 H σ w){q hi n:Nat}{kq:Blk}{oq:Ow}(hq:H.get q=some kq)(hqf:kq.fz=false)(hoq:σ q=some oq)(hn:¬ H.F n){v:Value}(hh:hi<=kq.U.length)(hv:Wy oq v kq.U.length 0 hi) :
  let σ':Nat->Option Ow:=λi=>if i=n then some ⟨hi,v,oq.H,oq.ty⟩ else if i=q then none else σ i
  Rel M0 ((H.drop q).push n ⟨kq.ty,kq.Y,kq.U.take hi,false⟩) σ' w/\Stp σ w σ' w/\Keeps (dJ M0 H σ) σ H.F w (dJ M0 ((H.drop q).push n ⟨kq.ty,kq.Y,kq.U.take hi,false⟩) σ') σ' ((H.drop q).push n ⟨kq.ty,kq.Y,kq.U.take hi,false⟩).F w:=by
 intro σ';have hqal:H.F q:=bB λh=>by rw [(hR.bp q h).1] at hoq;cases hoq
 have hqn:q≠n:=λe=>hn (e ▸ hqal);have hblk:∀ b,v.ownBlock=some b->oq.block=some b:=λb hb=>by
  rcases hv with ⟨_,rfl,_⟩|⟨b',cap,h1,h2,rfl⟩
  .simp [Value.ownBlock] at hb
  .simp only [Value.ownBlock] at hb;simp only [Ow.block,h1,Value.ownBlock];rw [<- hb];split<;>rfl
 have hmut:∀ b,dJ M0 ((H.drop q).push n ⟨kq.ty,kq.Y,kq.U.take hi,false⟩) σ' b->dJ M0 H σ b:=by
  rintro b (hm|⟨i,k',o',hk',hf,ho',hb'⟩)
  .exact .inl hm
  .by_cases h1:i=n
   .simp only [σ',h1,if_true,bH] at ho';subst ho';exact .inr ⟨q,kq,oq,hq,hqf,hoq,hblk b hb'⟩
   .by_cases h2:i=q
    .simp only [σ',h2,if_false,if_true,hqn] at ho';cases ho'
    .simp only [σ',h1,h2,if_false] at ho';simp only [AHeap.push,AHeap.drop,h1,h2,if_false] at hk';exact .inr ⟨i,k',o',hk',hf,ho',hb'⟩
 have hkeep:Keeps (dJ M0 H σ) σ H.F w (dJ M0 ((H.drop q).push n ⟨kq.ty,kq.Y,kq.U.take hi,false⟩) σ') σ' ((H.drop q).push n ⟨kq.ty,kq.Y,kq.U.take hi,false⟩).F w:=by
  refine ⟨λad u hm hu=>⟨λh=>hm (hmut _ h),hu⟩,λi o' hi' ho'=>?_,λi hi'=>.inr hi'⟩;have h1:i≠n:=λe=>hn (e ▸ hi');by_cases h2:i=q
  .simp only [σ',h2,if_true,hqn,if_false] at ho';cases ho'
  .simp only [σ',h1,h2,if_false] at ho';exact ⟨o',ho',.inl rfl⟩
 have hold:∀ {i o'},i≠n->σ' i=some o'->i≠q/\σ i=some o':=λ {i o'} h1 ho'=>by
  by_cases h2:i=q
  .simp only [σ',h2,if_true,hqn,if_false] at ho';cases ho'
  .simp only [σ',h1,h2,if_false] at ho';exact ⟨h2,ho'⟩
 obtain ⟨o2,ho2,l⟩:=hR.ah q kq hq;rw [hoq] at ho2;cases ho2
 obtain ⟨xs,hrow,hx1,hrep⟩:=l.row;refine ⟨⟨λi hi'=>?_,λi hi'=>?_,λi k' hk'=>?_,λi j oi oj b hi' hj' hbi hbj=>?_,λi oi b hi' hbi=>?_,hR.m0⟩,⟨rfl,rfl,rfl,aZ _,λ_ _ _=>rfl,λi o' b ho' hb'=>?_⟩,hkeep⟩
 .have hi2:¬ (i=n\/H.F i):=hi';have h1:i≠n:=λe=>hi2 (.inl e);have h2:i≠q:=λe=>hi2 (.inr (e ▸ hqal));simp only [σ',AHeap.push,AHeap.drop,h1,h2,if_false];exact hR.bp i λe=>hi2 (.inr e)
 .have hi2:i=n\/H.F i:=hi';have he:((H.drop q).push n ⟨kq.ty,kq.Y,kq.U.take hi,false⟩).next=if n<H.next then H.next else n+1:=rfl
  rw [he];rcases hi2 with rfl|hi2
  .by_cases h:i<H.next
   .rw [if_pos h];exact h
   .rw [if_neg h];omega
  .have:=hR.bf i hi2;by_cases h:n<H.next
   .rw [if_pos h];exact this
   .rw [if_neg h];omega
 .by_cases h1:i=n
  .simp only [AHeap.push,h1,if_true,bH] at hk';subst hk';refine ⟨⟨hi,v,oq.H,oq.ty⟩,by simp [σ',h1],by simp;omega,l.ty,l.Y,λc hc=>l.H c (dC hc),xs.take (hi * oq.H),⟨?_,?_⟩,λu hu=>hx1 u (dC hu),?_⟩
   .have:=hrow.1;have h2:hi * oq.H<=kq.U.length * oq.H:=fG _ hh;simp only [c8];rw [Nat.min_eq_left hh,Nat.min_eq_left aD]
   .have hm:(kq.U.take hi).length=hi:=by simp;omega
    simp only [hm];rcases hv with ⟨h1,h2,h3⟩|⟨b',cap,h1,h2,h3⟩
    .exact .inl ⟨h2,h3⟩
    .rcases hrow.2 with ⟨hn0,_⟩|⟨g,cap',cur,e1,e2,e3,e4,e5,e6,e7⟩
     .rw [h1] at hn0;cases hn0
     .rw [h1] at e1;cases e1
      refine .inr ⟨b',cap,cur,?_,eB _,e3,aD,e5,e6,?_⟩
      .rw [h3];simp
      .rw [<- e7,List.take_take,Nat.min_eq_left (fG _ hh)]
   .have hr:=hrep.q hkeep;refine ⟨?_,λj u d hu hd=>?_⟩
    .simp only;rw [Ed kq.U hi l.H];simp [hr.len]
    .simp only at hd;rw [Ed kq.U hi l.H,cF] at hd;rw [cF] at hu;split at hd
     .rename_i hj;rw [if_pos hj] at hu;exact hr.Z j u d hu hd
     .cases hd
  .by_cases h2:i=q
   .simp only [AHeap.push,AHeap.drop,h2,if_false,if_true,hqn] at hk';cases hk'
   .simp only [AHeap.push,AHeap.drop,h1,h2,if_false] at hk';obtain ⟨o',ho',l'⟩:=hR.ah i k' hk';obtain ⟨xs',a1,a2,a3⟩:=l'.row;exact ⟨o',by simp [σ',h1,h2,ho'],l'.af,l'.ty,l'.Y,l'.H,xs',a1,a2,a3.q hkeep⟩
 .by_cases h1:i=n<;>by_cases h2:j=n
  .rw [h1,h2]
  .simp only [σ',h1,if_true,bH] at hi';subst hi';obtain ⟨h3,h4⟩:=hold h2 hj';exact absurd (hR.inj j q oj oq b h4 hoq hbj (hblk b hbi)) h3
  .simp only [σ',h2,if_true,bH] at hj';subst hj';obtain ⟨h3,h4⟩:=hold h1 hi';exact absurd (hR.inj i q oi oq b h4 hoq hbi (hblk b hbj)) h3
  .exact hR.inj i j oi oj b (hold h1 hi').2 (hold h2 hj').2 hbi hbj
 .by_cases h1:i=n
  .simp only [σ',h1,if_true,bH] at hi';subst hi';exact hR.lt q oq b hoq (hblk b hbi)
  .exact hR.lt i oi b (hold h1 hi').2 hbi
 .by_cases h1:i=n
  .simp only [σ',h1,if_true,bH] at ho';subst ho';exact .inr ⟨q,oq,hoq,hblk b hb'⟩
  .exact .inr ⟨i,o',(hold h1 ho').2,hb'⟩
theorem Nb {H:AHeap}{σ:Nat->Option Ow}{w:World}(J:Rel M0 H σ w){f i a q e:Nat}{k kq:Blk}{s:UN}(G:H.get f=some k)(hf:k.fz=false)(L:k.U[i]?=some s)(R:H.get q=some kq)
  (hn:s[a]?=some (.win q kq.U.length 0 e)) (Q:kq.fz=false) (F:f≠q) :
  ∃ σ',Rel M0 (Cf H f i a q e) σ' w/\Stp σ w σ' w/\Keeps (dJ M0 H σ) σ H.F w (dJ M0 (Cf H f i a q e) σ') σ' (Cf H f i a q e).F w:=by
 have I:¬ H.F H.next:=λh=>mS _ (J.bf _ h);have X:H.F f:=bB λhn=>by rw [(J.bp f hn).2] at G;cases G
 have r:f≠H.next:=λh=>I (h ▸ X);obtain ⟨K,C,lq⟩:=J.ah q kq R;obtain ⟨o,ho,l⟩:=J.ah f k G;obtain ⟨M,B,A,m⟩:=l.row;have t:=l.H s (aL L);have p:a<o.H:=by rw [<- t];exact (aP.1 hn).1
 have n:k.U.flatten[i * o.H+a]?=some (.win q kq.U.length 0 e):=by rw [nE k.U i s l.H L a p];exact hn
 have U:i * o.H+a<M.length:=by rw [m.len];exact (aP.1 n).1
 obtain ⟨v,N⟩:∃ v,M[i * o.H+a]?=some v:=⟨_,aA U⟩;have P:=m.Z _ v _ N n;have E:v.oneCell'=true:=A v (aL N);obtain ⟨hh,hw⟩:e<=kq.U.length/\Wy K v kq.U.length 0 e:=by
  cases P
  rename_i _ _ V h;refine ⟨V.2,?_⟩;rcases h K C with h'|⟨_,h'⟩
  .have:=lq.af;omega
  .exact h'
 obtain ⟨p1,p2,p3⟩:=Tl J R Q C I hh hw;have W:((H.drop q).push H.next ⟨kq.ty,kq.Y,kq.U.take e,false⟩).get f=some k:=by simp [AHeap.push,AHeap.drop,r,F,G]
 have S:(λi=>if i=H.next then some (⟨e,v,K.H,K.ty⟩:Ow) else if i=q then none else σ i) f=some o:=by simp [r,F,ho]
 have x:∀ c∈k.U.set i (s.set a (.own H.next e)),c.length=o.H:=λc Z=>by
  rcases nM Z with h|h
  .exact l.H c h
  grind
 have Y:=yU (D.own H.next e) a s k.U i l.H L p;obtain ⟨q1,q2,q3⟩:=Rel.put p1 W hf S { k with U:=k.U.set i (s.set a (.own H.next e)) } o ⟨rfl,rfl,rfl,aZ _,λ_ _ _=>rfl⟩ (λb hb=>.inl hb) (.inl rfl) (by simp [l.af]) l.ty l.Y x M (eQ B) A (by
   have g:=m.q p3;simp only;rw [Y];refine ⟨by simpa using g.len,λj u d O y=>?_⟩;rw [dA] at y;split at y
   .rename_i hj;split at y
    .cases y
     rw [<- hj,N] at O;cases O
     exact .own _ _ _ (.inl rfl) E λo' ho'=>by simp at ho';subst ho';exact .inr ⟨rfl,rfl⟩
    .cases y
   .exact g.Z j u d O y)
 have hg:Cf H f i a q e=((H.drop q).push H.next ⟨kq.ty,kq.Y,kq.U.take e,false⟩).put f { k with U:=k.U.set i (s.set a (.own H.next e)) }:=by
  simp only [Cf,G,R,L,Option.getD_some]
 rw [hg];exact ⟨_,q1,p2.trans q2,p3.trans q3⟩
theorem yS {H H':AHeap}(j:Ghosts H H'){σ:Nat->Option Ow}{w:World}(l:Rel M0 H σ w):∃ σ',Rel M0 H' σ' w/\Stp σ w σ' w/\Keeps (dJ M0 H σ) σ H.F w (dJ M0 H' σ') σ' H'.F w:=by
 induction j with
 | refl=>exact ⟨σ,l,.refl _ _,.refl _ _ _ _⟩
 | trunc h id i off q hi k kq c hk hf hc hq hn hqf hne ih =>
  obtain ⟨σ1,g,f,e⟩:=ih;obtain ⟨σ2,d,b,a⟩:=Nb g hk hf hc hq hn hqf hne;exact ⟨σ2,d,f.trans b,e.trans a⟩
 | step h id i off ty sz k c hk hf hc hn ih =>
  obtain ⟨σ1,g,f,e⟩:=ih;obtain ⟨σ2,d,b,a⟩:=PF (ty:=ty) (sz:=sz) g hk hf hc hn;exact ⟨σ2,d,f.trans b,e.trans a⟩
theorem St.keeps {H H':AHeap}{σ σ':Nat->Option Ow}{w:World}{e:eF}{a:Act}(hS:St n M0 H σ w e a)(hR:Rel M0 H' σ' w)(hk:Keeps (dJ M0 H σ) σ H.F w (dJ M0 H' σ') σ' H'.F w):St n M0 H' σ' w e a :=
 ⟨hR,λt=>(hS.cc t).q hk,hS.defers,hS.size⟩
theorem o9 (hm:P.follows .mixedOrders=true):∀ (x:Code) (Q:Exit->eF->AHeap->Prop) (e:eF) (H:AHeap),pD P c x Q e H->qB c n x=true ->
  ∀ (σ:Nat->Option Ow) (w:World) (a:Act),St n M0 H σ w e a->x.wp P (Tb n M0 H σ w Q) a w
 | .skip,Q,e,H,h,_,σ,w,a,hS=>wp_skip ⟨e,H,σ,h,hS,.refl _ _,.refl _ _ _ _⟩
 | .region id ops dr,Q,e,H,h,hok,σ,w,a,hS=>by
  simp only [qB,aN,c9,cZ,cD] at hok;unfold pD at h;cases dr with
  | false =>
   simp only [fA,if_false] at h;exact wp_region_list (JC ops.toList e H _ h hok.1 σ w a hS λa' w' hc=>hc)
  | true =>
   simp only [if_true] at h;exact RH hm (hok.2.resolve_left dB) hok.1 h hS λa' w' hc=>hc
 | .seq x y,Q,e,H,h,hok,σ,w,a,hS=>by
  simp only [qB,aN] at hok;unfold pD at h;refine wp_seq (iS (o9 hm x _ e H h hok.1 σ w a hS) λex a' w' hc=>?_);cases ex<;>first|exact hc|skip
  obtain ⟨e',H',σ',hq,hS',hst,hk⟩:=hc;exact iS (o9 hm y Q e' H' hq hok.2 σ' w' a' hS') λex a'' w'' hc'=>Came.trans hst hk hc'
 | .cond x y z,Q,e,H,h,hok,σ,w,a,hS=>by
  simp only [qB,aN] at hok;unfold pD at h;have hx:=hS.bc.ev x;cases hv:fC e x<;>simp only [hv] at h<;>try (exact h.elim)
  rename_i t;rw [hv] at hx;have hc:a.eval x=.bool t:=by generalize a.eval x=v at hx;cases hx;rfl
  exact wp_cond_split hc (λht=>o9 hm y Q e H (h.1 ht) hok.1 σ w a hS) λht=>o9 hm z Q e H (h.2 ht) hok.2 σ w a hS
 | .block id b,Q,e,H,h,hok,σ,w,a,hS=>by
  unfold pD at h;refine wp_block (iS (o9 hm b _ e H h hok σ w a hS) λex a' w' hc=>?_);cases ex<;>first|exact hc|skip
  rename_i id';by_cases hid:id'=id
  .subst hid;show (if id'=id' then Tb n M0 H σ w Q .normal a' w' else _);rw [if_pos rfl];exact Came.mono hc λe' H' h=>by
    have h':(if id'=id' then Q .normal e' H' else Q (.exit id') e' H'):=h;rw [if_pos rfl] at h';exact h'
  .show (if id'=id then Tb n M0 H σ w Q .normal a' w' else Tb n M0 H σ w Q (.exit id') a' w');rw [if_neg hid];exact Came.mono hc λe' H' h=>by
    have h':(if id'=id then Q .normal e' H' else Q (.exit id') e' H'):=h;rw [if_neg hid] at h';exact h'
 | .loop b,Q,e,H,h,hok,σ,w,a,hS=>by
  unfold pD at h;obtain ⟨I,⟨H1,hgh,k0,h0⟩,hI⟩:=h;obtain ⟨σ1,g1,g2,g3⟩:=yS hgh hS.a2;have hS1:=hS.keeps g1 g3;let J:Nat->Act->World->Prop:=λk a' w'=>Came n M0 H σ w (I k) a' w'
  have hJ0:J k0 a w:=⟨e,H1,σ1,h0,hS1,g2,g3⟩
  classical
  let μ:Act->World->Nat:=λa' w'=>if hx:∃ k,J k a' w' then Classical.choose (gC hx) else 0
  refine wp_loop (λa' w'=>∃ k,J k a' w') μ ⟨k0,hJ0⟩ λa' w' hx=>?_;have hμ:μ a' w'=Classical.choose (gC hx):=by simp only [μ,dif_pos hx]
  obtain ⟨e',H',σ',hi,hS',hst,hk⟩:=(zV (gC hx)).1;refine iS (o9 hm b _ e' H' (hI _ e' H' hi) hok σ' w' a' hS') λex a'' w'' hc=>?_;have hc':=Came.trans hst hk hc;cases ex<;>first|exact hc'|skip
  obtain ⟨e2,H20,σ20,⟨H2,hgh2,k',hlt,hk'⟩,hS2,hst2,hk2⟩:=hc';obtain ⟨σ2,j1,j2,j3⟩:=yS hgh2 hS2.a2;have rest:=xa1 (hS2.keeps j1 j3) (hst2.trans j2) (hk2.trans j3);have hx2:∃ k,J k a'' w'':=⟨k',e2,H2,σ2,hk',rest⟩;refine ⟨hx2,?_⟩;have:μ a'' w''=Classical.choose (gC hx2):=by simp only [μ,dif_pos hx2]
  rw [this,hμ];refine Nat.lt_of_le_of_lt ?_ hlt;rcases cH k' (Classical.choose (gC hx2)) with hlt'|hge
  .exact absurd ⟨e2,H2,σ2,hk',rest⟩ ((zV (gC hx2)).2 k' hlt')
  .exact hge
 | .exit id,Q,e,H,h,_,σ,w,a,hS=>wp_exit ⟨e,H,σ,h,hS,.refl _ _,.refl _ _ _ _⟩
 | .ret,Q,e,H,h,_,σ,w,a,hS=>wp_ret ⟨e,H,σ,h,hS,.refl _ _,.refl _ _ _ _⟩
 | .rangeFunc ..,Q,e,H,h,_,_,_,_,_=>h.elim
 | .scope ..,Q,e,H,h,_,_,_,_,_=>h.elim
 | .label ..,Q,e,H,h,_,_,_,_,_=>h.elim
 | .goto ..,Q,e,H,h,_,_,_,_,_=>h.elim
 | .refuse ..,Q,e,H,h,_,_,_,_,_=>h.elim
end
end Go.Abs
end
section
namespace Go.Abs
def DY (P:Program):List ResultVar->eF->AHeap->(UN->Prop)->Prop
 | [],_,_,K=>K []
 | .tmp t :: r,e,H,K=>DY P r e H λl=>K (e t :: l)
 | .cell a ty :: r,e,H,K=>(oH P ty (e a) H).cond/\DY P r e H λl=>K ((oH P ty (e a) H).val :: l)
def Hb:UN->D
 | [d]=>d
 | l=>.tup l
def TC (P:Program)(rs:List ResultVar)(Q:D->AHeap->Prop):Exit->eF->AHeap->Prop
 | .normal,e,H=>DY P rs e H λl=>Q (Hb l) H
 | .ret,e,H=>DY P rs e H λl=>Q (Hb l) H
 | _,_,_=>False
def DG (args:UN):eF:=λt=>args.getD t .junk
def El (tmps:Array Value):ResultVar->Sem Value
 | .tmp t=>Pure.pure (tmps.getD t undef)
 | .cell x t=>do loadVar t (<- asAddr (tmps.getD x undef))
section
variable {P:Program} {M0:Nat→Prop} {H:AHeap} {σ:Nat→Option Ow} {w:World} {n:Nat} {e:eF} {a:Act}
theorem yZ (hS:St n M0 H σ w e a):∀ (rs:List ResultVar) (K:UN->Prop),DY P rs e H K ->
  ∃ vs l,Sem.run P (rs.mapM (El a.tmps)) w=Result.ok vs w/\RepL (dJ M0 H σ) σ H.F w vs l/\K l
 | [],K,h=>⟨[],[],by simp,⟨rfl,λj u d hu=>by simp at hu⟩,h⟩
 | .tmp t :: rs,K,h=>by
  obtain ⟨vs,l,h1,h2,h3⟩:=yZ hS rs _ h;refine ⟨a.tmps.getD t undef :: vs,e t :: l,by simp [List.mapM_cons,El,h1],⟨by simp [h2.len],λj u d hu hd=>?_⟩,h3⟩;cases j with
  | zero=>simp only [l5,bH] at hu hd;subst hu;subst hd;exact hS.cc t
  | succ j=>exact h2.Z j u d (eQ hu) (eQ hd)
 | .cell x t :: rs,K,h=>by
  obtain ⟨vs,l,h1,h2,h3⟩:=yZ hS rs _ h.2;obtain ⟨_,_,v,hr,hv⟩:=Pq (P:=P) hS.a2 (hS.cc x) h.1;have hld:Sem.run P (El a.tmps (.cell x t)) w=.ok v w:=by
   simp only [El];unfold Instr.loadAt at hr;generalize a.tmps.getD x undef=q at hr ⊢;cases q with
   | pointer p=>cases p with
    | some ad=>simpa [Instr.sureAddr,asAddr] using hr
    | none=>simp [Instr.sureAddr,stuck] at hr
   | _=>simp [Instr.sureAddr,stuck] at hr
  refine ⟨v :: vs,_ :: l,by simp [List.mapM_cons,hld,h1],⟨by simp [h2.len],λj u d hu hd=>?_⟩,h3⟩;cases j with
  | zero=>simp only [l5,bH] at hu hd;subst hu;subst hd;exact hv
  | succ j=>exact h2.Z j u d (eQ hu) (eQ hd)
theorem Fo {fn:Func}{vs:List Value}{l:UN}(h:Sem.run P (fn.results.toList.mapM (El a.tmps)) w=.ok vs w)(b:RepL (dJ M0 H σ) σ H.F w vs l) :
  ∃ v,(results fn a.tmps).run P w=.ok v w/\RepV (dJ M0 H σ) σ H.F w v (Hb l):=by
 have c:results fn a.tmps=(do let vs <- fn.results.mapM (El a.tmps);Pure.pure (if h:vs.size=1 then vs[0] else .tuple vs)):=rfl;rw [c,Array.mapM_eq_mapM_toList];refine ⟨if h:vs.toArray.size=1 then vs.toArray[0] else .tuple vs.toArray,by simp [h],?_⟩;by_cases f:vs.length=1
 .match vs,f,b with
  | [v],_,b =>
   match l,b with
   | [d],b=>simpa [Hb] using b.Z 0 v d rfl rfl
   | [],b=>have:=b.len;simp at this
   | _ :: _ :: _,b=>have:=b.len;simp at this
 .have e:¬ vs.toArray.size=1:=by simpa using f
  rw [dif_neg e];have g:Hb l=.tup l:=by
   match l,b with
   | [],_=>rfl
   | [d],b=>have:=b.len;simp at this;exact absurd this f
   | _ :: _ :: _,_=>rfl
  rw [g];exact .tup vs l b.len b.Z
theorem XH {n:Nat}{vals:List Value}{args:UN}(e:Rel M0 H σ w)(a:RepL (dJ M0 H σ) σ H.F w vals args)(c:args.length<=n):St n M0 H σ w (DG args) { tmps:=vals.toArray++Array.replicate (n - vals.toArray.size) undef,defers:=[] }:=by
 refine ⟨e,λt=>?_,rfl,by simp [a.len];omega⟩;simp only [DG];by_cases b:t<vals.length
 .have h1:vals[t]?=some vals[t]:=aA b;have d:args[t]?=some (args[t]'(by rw [<- a.len];exact b)):=aA _;have:=a.Z t _ _ h1 d;rw [List.getD_eq_getElem?_getD,d];simp only [Option.getD_some,mH];rw [Array.getElem?_append_left (eQ b)];simpa [h1] using this
 .rw [List.getD_eq_getElem?_getD,bX (by rw [<- a.len];omega)];exact .junk _
theorem WW {l r:List ResultVar}(h:l=r:=by first|exact @rfl (List Go.ResultVar) [.tmp _]|exact @rfl (List Go.ResultVar) []|exact @rfl (List Go.ResultVar) [.tmp _,.tmp _]|exact @rfl (List Go.ResultVar) [.cell _ _,.tmp _]|exact @rfl (List Go.ResultVar) [.cell _ _]|exact @rfl (List Go.ResultVar) [.cell _ _,.cell _ _,.tmp _]|exact @rfl (List Go.ResultVar) [.cell _ _,.cell _ _]|exact @rfl (List Go.ResultVar) [.tmp _,.cell _ _,.tmp _]|exact @rfl (List Go.ResultVar) [.tmp _,.tmp _,.tmp _]|exact @rfl (List Go.ResultVar) [.cell _ _,.tmp _,.tmp _]|exact @rfl (List Go.ResultVar) [.cell _ _,.cell _ _,.cell _ _]):l=r:=h
theorem aJ {f:FuncId}{fn:Func}{x:Code}{rs:List ResultVar}{cfg:Cfg}{args:UN}{Q:D->AHeap->Prop}(y:P.follows .mixedOrders=true)(r:P.funcs[f]?=some fn)(s:fn.body=some x)
  (n:(fn.name=="runtime.NumGoroutine")=false) (c:args.length<=fn.ntmps) (m:qB cfg fn.ntmps x=true)
  (h:pD P cfg x (TC P rs Q) (DG args) H) (u:fn.results.toList=rs:=by exact WW):ACalls P f args H Q:=by
 subst u;refine ⟨⟨fn,r,n,by simp [s]⟩,λg σ w q E B=>calls_of_wp r s ?_⟩;have C:=XH E B c;refine iS (o9 y x _ _ H h m σ w _ C) λJ t b A=>?_;obtain ⟨K,p,σ',e,a,k,z⟩:=A;have o:DY P fn.results.toList K p (λl=>Q (Hb l) p)->t.defers=[]/\∃ v,(results fn t.tmps).run P b=.ok v b /\
   ∃ v2 d H2 σ2,Ending.returned v=.returned v2/\Rel g H2 σ2 b/\RepV (dJ g H2 σ2) σ2 H2.F b v2 d/\Stp σ w σ2 b/\Keeps (dJ g H σ) σ H.F w (dJ g H2 σ2) σ2 H2.F b/\Q d H2:=by
  intro e;obtain ⟨L,l,I,G,F⟩:=yZ a _ _ e;obtain ⟨v,j,i⟩:=Fo (fn:=fn) I G;exact ⟨a.defers,v,j,v,_,p,σ',rfl,a.a2,i,k,z,F⟩
 cases J<;>first|exact o e|exact e.elim
end
/-! ### pure contracts -/
theorem D2 {l:UN}(h:∀ d∈l,d.P=true):D.L l=true:=by
 induction l with
 | nil=>rfl
 | cons a l ih=>simp [D.L,h a dB,ih λd hd=>h d (by simp [hd])]
def iP:Nat->Option Ow:=λ_=>none
def sO:Nat->Prop:=λ_=>False
def Pure (P:Program)(f:FuncId)(args:UN)(r:D):Prop :=
 Yc P f/\∀ (M:Nat->Prop) (w:World) (vals:List Value),(∀ b,M b->b<w.heap.size)->RepL M iP sO w vals args ->
  Calls P f vals.toArray w λe w'=>∃ v,e=.returned v/\RepV M iP sO w' v r/\RowKit.Below w.heap.size w w'
def Own (P:Program)(f:FuncId)(args:UN)(ty:TypeId)(sz:Nat)(es:UE):Prop :=
 Yc P f/\∀ (M:Nat->Prop) (w:World) (vals:List Value),(∀ b,M b->b<w.heap.size)->RepL M iP sO w vals args ->
  Calls P f vals.toArray w λe w'=>∃ v xs,e=.returned v/\w'.ownsRow w.heap.size ty sz v es.length xs/\(∀ u∈xs,u.oneCell'=true)/\RepL (λb=>M b\/v.ownBlock=some b) iP sO w' xs es.flatten/\D.O es=true/\(∀ c∈es,c.length=sz) /\
   RowKit.Below w.heap.size w w'
def rZ (H:AHeap):D->D
 | .tup vs=>.tup (vs.map (iU H))
 | d=>iU H d
def Ep:D->List Nat
 | .tup vs=>vs.flatMap dW
 | d=>dW d
section
variable {P:Program} {M0:Nat→Prop} {H:AHeap} {σ:Nat→Option Ow} {w:World}
theorem u0 {v:Value}{d:D}(g:Rel M0 H σ w)(b:RepV (dJ M0 H σ) σ H.F w v d)(a:List Nat)(f:∀ i∈Ep d,i∈a) :
  RepV (dJ M0 (fN a H) σ) σ (fN a H).F w v (rZ H d):=by
 cases d with
 | tup vs =>
  cases b
  rename_i h l k;refine .tup h _ (eQ l) λj u x hu b=>?_;rw [aM,bV] at b;obtain ⟨y,e,rfl⟩:=b;exact mZ g (k j u y hu e) a λi c=>f i (by simp only [Ep,bK];exact ⟨y,aL e,c⟩)
 | _=>exact mZ g b a f
theorem GS (M:Nat->Prop):dJ M .an iP=M:=by
 funext b;exact propext ⟨λh=>h.elim (λh=>h) λ⟨_,_,_,h,_⟩=>by simp [AHeap.an] at h,.inl⟩
theorem GO (M:Nat->Prop)(w:World)(hM:∀ b,M b->b<w.heap.size):Rel M .an iP w :=
 ⟨λ_ _=>⟨rfl,rfl⟩,λ_ h=>h.elim,λ_ _ h=>by simp [AHeap.an] at h,λ_ _ _ _ _ h=>by simp [iP] at h,λ_ _ _ h=>by simp [iP] at h,hM⟩
theorem AT {σ':Nat->Option Ow}{w':World}(h:Stp iP w σ' w'):RowKit.Below w.heap.size w w' :=
 ⟨h.os,h.tape,h.output,h.size,λb hb=>h.aX b hb λ_ _ h=>by simp [iP] at h⟩
theorem aU {f:FuncId}{args:UN}{r:D}(h:ACalls P f args .an λd H'=>rZ H' d=r/\r.P=true):Pure P f args r:=by
 refine ⟨h.1,λM w vals hM ha=>(h.2 M iP w vals (GO M w hM) (by rw [GS];exact ha)).mono λe w' ⟨v,d,H',σ',k,m,g,a,n,j,b⟩=>⟨v,k,?_,AT a⟩⟩;have c:=u0 m g (Ep d) λi hi=>hi;rw [j] at c;exact c.aQ (λad u hm l=>⟨λh=>hm (.inl h),l⟩) b
theorem C7 {f:FuncId}{args:UN}{ty:TypeId}{sz:Nat}{es:UE}
  (h:ACalls P f args .an λd H'=>∃ id k,d=.own id es.length/\H'.get id=some k/\k.U=es/\k.ty=ty/\k.Y=sz/\k.fz=false/\D.O es=true):Own P f args ty sz es:=by
 refine ⟨h.1,λM w vals hM ha=>(h.2 M iP w vals (GO M w hM) (by rw [GS];exact ha)).mono λe w' ⟨v,d,H',σ',K,L,H,n,Q,id,k,q,i,r,N,B,y,p⟩=>?_⟩;subst q;subst r;subst N;subst B;obtain ⟨o,x,l⟩:=L.ah id k i;obtain ⟨G,a,t,b⟩:=l.row;cases H
 rename_i _ _ m;rcases m o x with J|⟨_,rfl⟩
 .have:=l.af;omega
 .refine ⟨o.val,G,K,?_,t,⟨b.len,λj u d hu q=>(b.Z j u d hu q).aQ (λad u hm A=>⟨λh=>hm (h.elim .inl λh=>.inr ⟨id,k,o,i,y,x,h⟩),A⟩) ?_⟩,p,λc A=>(l.H c A).trans l.Y,AT n⟩
  .rw [<- l.Y];refine ⟨a.1,?_⟩;rcases a.2 with I|⟨g,E,C,r,_,B⟩
   .exact .inl I
   .refine .inr ⟨g,E,C,r,?_,B⟩;rcases n.new id o g x (by simp [Ow.block,r,Value.ownBlock]) with h|⟨_,O,h,_⟩
    .exact h
    .simp [iP] at h
  .obtain ⟨c,z,s⟩:=jE.1 (aL q);exact jN (rJ p c z) d s
theorem Av {M:Nat->Prop}{N:Nat->Prop}:Keeps M iP sO w M σ N w:=⟨λ_ _ h k=>⟨h,k⟩,λ_ _ h=>h.elim,λ_ h=>h.elim⟩
theorem g5 {M M':Nat->Prop}{N N':Nat->Prop}{σ':Nat->Option Ow}(hM:∀ b,¬ M b->¬ M' b){vs:List Value}{ds:UN}(h:RepL M σ N w vs ds)(hc:D.L ds=true):RepL M' σ' N' w vs ds :=
 ⟨h.len,λj u d hu hd=>(h.Z j u d hu hd).aQ (λad u hm hc=>⟨hM _ hm,hc⟩) (jN hc d (aL hd))⟩
theorem v8 (a:Rel M0 H σ w):∀ b,dJ M0 H σ b->b<w.heap.size:=by
 rintro b (h|⟨i,k,o,_,_,c,d⟩)
 .exact a.m0 b h
 .exact (a.lt i o b c d).1
theorem tC {f:FuncId}{args:UN}{r:D}{Q:D->AHeap->Prop}(c:Pure P f args r)(b:D.L args=true)(i:Q r H):ACalls P f args H Q:=by
 refine ⟨c.1,λM0 σ w vals hR ha=>(c.2 (dJ M0 H σ) w vals (v8 hR) (g5 (λ_ h=>h) ha b)).mono λe w' ⟨v,g,d,a⟩=>?_⟩;obtain ⟨l,k,j⟩:=hR.grow a.os a.tape a.output a.size a.block;exact ⟨v,r,H,σ,g,l,d.q Av,k,j,i⟩
theorem CS {M0:Nat->Prop}(hR:Rel M0 H σ w){vals:List Value}{args:UN}(ha:RepL (dJ M0 H σ) σ H.F w vals args)(ids:List Nat)(hi:∀ i∈args.flatMap dW,i∈ids) :
  RepL (dJ M0 (fN ids H) σ) σ (fN ids H).F w vals (args.map (iU H)) :=
 ⟨by simpa using ha.len,λj u d hu hd=>by
  rw [aM,bV] at hd;obtain ⟨y,hy,rfl⟩:=hd;exact mZ hR (ha.Z j u y hu hy) ids λi hii=>hi i (bK.2 ⟨y,aL hy,hii⟩)⟩
def D.bH:D->Bool
 | .int .. | .bool _ | .str _ | .nil | .nilp | .nilf=>true
 | _=>false
def D.aD:D->Bool
 | .tup vs=>vs.all D.bH
 | d=>d.bH
theorem LI {M c:Nat->Prop}{N b:Nat->Prop}{σ σ':Nat->Option Ow}{w w':World}{v:Value}{d:D}(h:RepV M σ N w v d)(a:d.bH=true):RepV c σ' b w' v d:=by
 cases h<;>first|(simp [D.bH] at a;done)|constructor
theorem AF {M g:Nat->Prop}{N f:Nat->Prop}{σ σ':Nat->Option Ow}{w w':World}{v:Value}{d:D}(h:RepV M σ N w v d)(a:d.aD=true):RepV g σ' f w' v d:=by
 cases d with
 | tup vs =>
  cases h
  rename_i b e c;simp only [D.aD,c9] at a;exact .tup b vs e λj u x hu hx=>LI (c j u x hu hx) (a x (aL hx))
 | _=>exact LI h a
theorem y3 {f:FuncId}{args:UN}{r:D}{Q:D->AHeap->Prop}(c:Pure P f (args.map (iU H)) r)(b:D.L (args.map (iU H))=true)(g:r.aD=true)(k:Q r H):ACalls P f args H Q:=by
 refine ⟨c.1,λM0 σ w vals hR ha=>?_⟩;obtain ⟨o,s,q,p⟩:=fY (args.flatMap dW) hR;refine (c.2 (dJ M0 (fN (args.flatMap dW) H) σ) w vals (v8 o) (g5 (λ_ h=>h) (CS hR ha _ λi h=>h) b)).mono λe w' ⟨v,j,d,a⟩=>?_;obtain ⟨n,m,l⟩:=hR.grow a.os a.tape a.output a.size a.block;exact ⟨v,r,H,σ,j,n,AF d g,m,l,k⟩
theorem NF {f:FuncId}{args:UN}{r:D}{Q:D->AHeap->Prop}(c:Pure P f (args.map (iU H)) r)(b:D.L (args.map (iU H))=true)(k:Q r (fN (args.flatMap dW) H)):ACalls P f args H Q:=by
 refine ⟨c.1,λM0 σ w vals hR ha=>?_⟩;obtain ⟨d,o,q,p⟩:=fY (args.flatMap dW) hR;refine (c.2 (dJ M0 (fN (args.flatMap dW) H) σ) w vals (v8 d) (g5 (λ_ h=>h) (CS hR ha _ λi h=>h) b)).mono λe w' ⟨v,j,g,a⟩=>?_;obtain ⟨n,m,l⟩:=d.grow a.os a.tape a.output a.size a.block;exact ⟨v,r,_,σ,j,n,g.q Av,m,o.trans l,k⟩
theorem F9 {f:FuncId}{args:UN}{ty:TypeId}{sz:Nat}{es:UE}{Q:D->AHeap->Prop}(S:Own P f args ty sz es)(L:D.L args=true)
  (hQ:Q (.own H.next es.length) (H.push H.next ⟨ty,sz,es,false⟩)):ACalls P f args H Q:=by
 refine ⟨S.1,λM0 σ w vals hR ha=>(S.2 (dJ M0 H σ) w vals (v8 hR) (g5 (λ_ h=>h) ha L)).mono λe w' ⟨v,O,he,k,N,y,A,I,C⟩=>?_⟩;have p:w'.ownsRow 0 ty sz v es.length O:=⟨k.1,k.2.imp (λx=>x) λ⟨g,s,r,a,b,c⟩=>⟨g,s,r,a,eB _,c⟩⟩;have M:∀ b,v.ownBlock=some b->w.heap.size<=b:=λb j=>by
  rcases k.2 with E|⟨g,s,r,N,h2,h3⟩
  .rw [E.1] at j;simp [Value.ownBlock] at j
  .rw [N] at j;simp only [Value.ownBlock,bH] at j;omega
 have hG:∀ F,¬ (dJ M0 H σ F\/v.ownBlock=some F)->¬ dJ M0 (H.push H.next ⟨ty,sz,es,false⟩) (λi=>if i=H.next then some ⟨es.length,v,sz,ty⟩ else σ i) F:=by
  intro F J h;rcases h with h|⟨i,Y,X,z,Z,m,j⟩
  .exact J (.inl (.inl h))
  .by_cases q:i=H.next
   .simp only [q,if_true,bH] at m;subst m;exact J (.inr j)
   .simp only [q,if_false] at m;simp only [AHeap.push,q,if_false] at z;exact J (.inl (.inr ⟨i,Y,X,z,Z,m,j⟩))
 have B:D.L es.flatten=true:=D2 λd hd=>by
  obtain ⟨c,K,G⟩:=jE.1 hd;exact jN (rJ A c K) d G
 obtain ⟨W,V,U⟩:=Rel.b7 hR H.next (λh=>mS _ (hR.bf _ h)) (w':=w') C.os C.tape C.output C.size C.block ⟨ty,sz,es,false⟩ ⟨es.length,v,sz,ty⟩
  M rfl rfl rfl I O p N (λhk=>g5 hG y B)
 exact ⟨v,_,_,_,he,W,.own v _ _ (.inl rfl) (by rcases k.2 with ⟨E,_⟩|⟨g,s,r,E,_⟩<;>simp [E,Value.oneCell']) (λo ho=>by simp at ho;subst ho;exact .inr ⟨rfl,rfl⟩),V,U,hQ⟩
end
end Go.Abs
end
section
namespace Go.Abs
inductive SOut where
 | op (o:AOut)
 | call (f:FuncId) (args:UN)
 | gop (t:Bool) (g:Bool) (o:AOut)
 | gcall (t:Bool) (g:Bool) (f:FuncId) (args:UN)
 | bad
def Mj (c:Option (FuncId × UN))(o:AOut):SOut :=
 match c with
 | some (f,args)=>.call f args
 | none=>.op o
def JS (gc:Option (Bool × Bool))(b:Bool)(g:Bool)(c:Option (FuncId × UN))(o:AOut):SOut :=
 match gc with
 | some (t,c')=>match c with
  | some (f,args)=>.gcall (t&&(c'==b)) g f args
  | none=>.gop (t&&(c'==b)) g o
 | none=>.bad
def nP (P:Program)(md:Nat->Bool)(nid:Nat)(ops:Array Oper)(e:eF)(o:Oper)(H:AHeap):SOut :=
 match o.guard with
 | none=>Mj (gZ e o) (GD P nid md e o H)
 | some (j,b)=>JS (gD ops e j) b (UP e (gO o.op)) (gZ (gE e o.op) o) (GD P nid md (gE e o.op) o H)
def fE (P:Program)(md:Nat->Bool)(ops:Array Oper)(rest:List Oper)(e:eF)(dst:Option Tmp)(K:eF->AHeap->Prop)(f:FuncId)(args:UN)(H:AHeap):Prop :=
 ACalls P f args H λv H1=>nX P md ops rest (pG e dst v) H1 K
def AD (P:Program)(md:Nat->Bool)(ops:Array Oper)(rest:List Oper)(e:eF)(dst:Option Tmp)(K:eF->AHeap->Prop)(t:Bool)(f:FuncId)(args:UN)(H:AHeap):Prop :=
 (∃ r S,(t=true->∀ H',f8 S H' H->ACalls P f args H' λv H1=>v=r/\H1=H')/\nX P md ops rest (pG e dst (.opt t r)) H K) \/
  ((t=true->ACalls P f args H λv H1=>nX P md ops rest (pG e dst (.opt true v)) H1 K)/\(t=false->∃ r,nX P md ops rest (pG e dst (.opt false r)) H K))
def AJ (P:Program)(md:Nat->Bool)(ops:Array Oper)(rest:List Oper)(e:eF)(dst:Option Tmp)(H:AHeap)(K:eF->AHeap->Prop):SOut->Prop
 | .op o=>o.cond/\(o.X->nX P md ops rest (pG e dst o.val) o.heap K)
 | .call f args=>fE P md ops rest e dst K f args H
 | .gop t g o=>(t=true->g=true)/\(t=true->o.cond/\o.heap=H)/\((t=true->o.X)->nX P md ops rest (pG e dst (.opt t o.val)) H K)
 | .gcall t g f args=>(t=true->g=true)/\AD P md ops rest e dst K t f args H
 | .bad=>False
theorem UL (P:Program)(md:Nat->Bool)(ops:Array Oper)(o:Oper)(i:List Oper)(e:eF)(H:AHeap)(K:eF->AHeap->Prop) :
  nX P md ops (o :: i) e H K=AJ P md ops i e o.dst H K (nP P md H.next ops e o H):=by
 obtain ⟨dst,op,type,pos,after,guard⟩:=o;cases guard with
 | none =>
  simp only [nX,qF,nP];cases m:gZ e { dst:=dst,op:=op,type:=type,pos:=pos,after:=after,guard:=none } with
  | none=>simp [Mj,AJ]
  | some p=>simp [Mj,AJ,fE]
 | some p =>
  obtain ⟨j,b⟩:=p;simp only [nX,qF,nP];cases n:gD ops e j with
  | none=>simp [JS,AJ]
  | some gc =>
   obtain ⟨t,q⟩:=gc;cases m:gZ (gE e op) { dst:=dst,op:=op,type:=type,pos:=pos,after:=after,guard:=some (j,b) } with
   | none=>simp [JS,AJ]
   | some p=>simp [JS,AJ,AD]
@[go_sem] theorem aaA (P:Program)(md:Nat->Bool)(ops:Array Oper)(e:eF)(H:AHeap)(K:eF->AHeap->Prop):nX P md ops [] e H K=K e H:=rfl
@[go_sem] theorem acG (P:Program)(md:Nat->Bool)(ops:Array Oper)(rest:List Oper)(e:eF)(dst:Option Tmp)(H H':AHeap)(K:eF->AHeap->Prop)(c f:Prop)(v:D) :
 AJ P md ops rest e dst H K (.op ⟨c,f,v,H'⟩)=(c/\(f->nX P md ops rest (pG e dst v) H' K)):=rfl
@[go_sem] theorem Zb (P:Program)(md:Nat->Bool)(ops:Array Oper)(rest:List Oper)(e:eF)(dst:Option Tmp)(H:AHeap)(K:eF->AHeap->Prop)(f:FuncId)(args:UN) :
 AJ P md ops rest e dst H K (.call f args)=fE P md ops rest e dst K f args H:=rfl
@[go_sem] theorem Z6 (P:Program)(md:Nat->Bool)(ops:Array Oper)(rest:List Oper)(e:eF)(dst:Option Tmp)(H H':AHeap)(K:eF->AHeap->Prop)(c f:Prop)(v:D)(t g:Bool) :
 AJ P md ops rest e dst H K (.gop t g ⟨c,f,v,H'⟩)=((t=true->g=true)/\(t=true->c/\H'=H)/\((t=true->f)->nX P md ops rest (pG e dst (.opt t v)) H K)):=rfl
@[go_sem] theorem X3 (P:Program)(md:Nat->Bool)(ops:Array Oper)(rest:List Oper)(e:eF)(dst:Option Tmp)(H:AHeap)(K:eF->AHeap->Prop)(f:FuncId)(args:UN)(t g:Bool) :
 AJ P md ops rest e dst H K (.gcall t g f args)=((t=true->g=true)/\AD P md ops rest e dst K t f args H):=rfl
@[go_sem] theorem Zx (f:FuncId)(args:UN)(o:AOut):Mj (some (f,args)) o=.call f args:=rfl
@[go_sem] theorem Zy (o:AOut):Mj none o=.op o:=rfl
@[go_sem] theorem aaE (e:eF)(d t:Nat)(v:D):pG e (some d) v t=if t=d then v else e t:=rfl
@[go_sem] theorem aaF (e:eF)(v:D):pG e none v=e:=rfl
def Xq:List (Nat × D)->eF
 | []=>λ_=>.junk
 | (t,d) :: l=>λt'=>if t'=t then d else Xq l t'
@[go_sem] theorem acE (t:Nat):Xq [] t=.junk:=rfl
@[go_sem] theorem Z3 (t:Nat)(d:D)(l:List (Nat × D))(t':Nat):Xq ((t,d) :: l) t'=if t'=t then d else Xq l t':=rfl
@[go_sem] theorem acD (t:Nat):DG [] t=.junk:=by simp [DG]
@[go_sem] theorem Z1 (d:D)(l:UN):DG (d :: l) 0=d:=rfl
@[go_sem] theorem Z2 (d:D)(l:UN)(t:Nat):DG (d :: l) (t+1)=DG l t:=by simp [DG]
@[go_sem] theorem aeC (e:eF)(t:Nat):fC e (.tmp t)=e t:=rfl
@[go_sem] theorem acB (e:eF)(f:FuncId):fC e (.func f)=.fn f []:=rfl
@[go_sem] theorem aeF (e:eF)(k:IntKind)(n:Int):fC e (.const (.int k n))=.int k n:=rfl
@[go_sem] theorem acC (e:eF)(b:Bool):fC e (.const (.bool b))=.bool b:=rfl
@[go_sem] theorem aeD (e:eF)(b:ByteArray):fC e (.const (.string b))=.str b:=rfl
@[go_sem] theorem aeE (e:eF):fC e (.const (.slice none 0 0))=.nil:=rfl
@[go_sem] theorem ab9 (e:eF):fC e (.const (.pointer none))=.nilp:=rfl
@[go_sem] theorem acA (e:eF):fC e (.const .nilFunc)=.nilf:=rfl
@[go_sem] theorem YJ:jD (.const (.slice none 0 0))=true:=rfl
@[go_sem] theorem YH (t:Nat):jD (.tmp t)=false:=rfl
@[go_sem] theorem YK (k:IntKind)(n:Int):jD (.const (.int k n))=false:=rfl
@[go_sem] theorem XV (b:Bool):jD (.const (.bool b))=false:=rfl
@[go_sem] theorem YI (b:ByteArray):jD (.const (.string b))=false:=rfl
@[go_sem] theorem XS:jD (.const (.pointer none))=false:=rfl
@[go_sem] theorem XT:jD (.const .nilFunc)=false:=rfl
@[go_sem] theorem XU (f:FuncId):jD (.func f)=false:=rfl
@[go_sem] theorem abT (md:Nat->Bool)(t:Nat):Et md (some t)=md t:=rfl
@[go_sem] theorem abU (md:Nat->Bool):Et md none=false:=rfl
section
variable (P:Program) (md:Nat→Bool) (nid:Nat) (ops:Array Oper) (e:eF) (d:Option Tmp) (ty:TypeId) (p:String) (af:Array Edge) (H:AHeap)
@[go_sem] theorem aeS (x:Operand):nP P md nid ops e ⟨d,.move x,ty,p,af,none⟩ H=.op (if jD x then E9 P nid (Et md d) ty H else ⟨True,True,fC e x,H⟩):=rfl
@[go_sem] theorem aaL (x:Operand):nP P md nid ops e ⟨d,.assign x,ty,p,af,none⟩ H=.op (if jD x then E9 P nid (Et md d) ty H else ⟨True,True,fC e x,H⟩):=rfl
@[go_sem] theorem aeR (c a b:Operand):nP P md nid ops e ⟨d,.pick c a b,ty,p,af,none⟩ H=.op (AR (fC e c) (fC e a) (fC e b) H):=rfl
@[go_sem] theorem adD (t:TypeId):nP P md nid ops e ⟨d,.alloc t,ty,p,af,none⟩ H=.op (y0 P nid (Et md d) t H):=rfl
@[go_sem] theorem afK (t:TypeId)(x:Operand):nP P md nid ops e ⟨d,.box t x,ty,p,af,none⟩ H=.op (NA P nid (Et md d) t (fC e x) H):=rfl
@[go_sem] theorem adB (t:TypeId)(ps:Array (Nat × Operand)):nP P md nid ops e ⟨d,.build t ps,ty,p,af,none⟩ H=.op (uN P t (ps.toList.map λp=>(p.1,fC e p.2)) H):=rfl
@[go_sem] theorem aeI (md:Nat->Bool)(H:AHeap)(d:D):S2 md H d=if md 1000001 then d else iU H d:=rfl
@[go_sem] theorem aeH (md:Nat->Bool)(d:D):Nn md d=if md 1000001 then [] else dW d:=rfl
@[go_sem] theorem WT (t:TypeId)(n:Nat)(b:Array (Nat × Operand)):nP P md nid ops e ⟨d,.buildSlice t n b,ty,p,af,none⟩ H =
  .op (if md 1000001 then iV P nid (Et md d) t n (b.toList.map λp=>(p.1,fC e p.2)) H else iV P nid (Et md d) t n (b.toList.map λp=>(p.1,iU H (fC e p.2))) (fN (b.toList.flatMap λp=>dW (fC e p.2)) H)):=by
 show SOut.op (iV P nid (Et md d) t n (b.toList.map λp=>(p.1,S2 md H (fC e p.2))) (fN (b.toList.flatMap λp=>Nn md (fC e p.2)) H))=_;cases h:md 1000001
 .simp [S2,Nn,h]
 .simp only [S2,Nn,h,if_true];rw [show (b.toList.flatMap λ_=>([]:List Nat))=[] by induction b.toList with|nil=>rfl|cons a l ih=>simp];rfl
@[go_sem] theorem aeT (t:TypeId)(x:Operand):nP P md nid ops e ⟨d,.load t x,ty,p,af,none⟩ H=.op (oH P t (fC e x) H):=rfl
@[go_sem] theorem ac7 (t:TypeId)(x y:Operand):nP P md nid ops e ⟨d,.store t x y,ty,p,af,none⟩ H =
 .op (if md 1000000 then mN P t (fC e x) (iU H (fC e y)) (fN (dW (fC e y)) H) else mN P t (fC e x) (fC e y) H):=rfl
@[go_sem] theorem Yo (x:Operand):nP P md nid ops e ⟨d,.nilCheck x,ty,p,af,none⟩ H=.op (jM (fC e x) H):=rfl
@[go_sem] theorem adC (b:BinOp)(t t':TypeId)(x y:Operand):nP P md nid ops e ⟨d,.binOp b t x y t',ty,p,af,none⟩ H=.op (tB (md 2000000) P t b (fC e x) (fC e y) H):=rfl
@[go_sem] theorem ac2 (w:Bool)(P:Program)(t:TypeId)(x y:D)(H:AHeap):tB w P t .add x y H=JD P t .add x y H:=by cases w<;>rfl
@[go_sem] theorem acV (w:Bool)(P:Program)(t:TypeId)(x y:D)(H:AHeap):tB w P t .mul x y H=JD P t .mul x y H:=by cases w<;>rfl
@[go_sem] theorem acS (w:Bool)(P:Program)(t:TypeId)(x y:D)(H:AHeap):tB w P t .quo x y H=JD P t .quo x y H:=by cases w<;>rfl
@[go_sem] theorem acR (w:Bool)(P:Program)(t:TypeId)(x y:D)(H:AHeap):tB w P t .rem x y H=JD P t .rem x y H:=by cases w<;>rfl
@[go_sem] theorem ac0 (w:Bool)(P:Program)(t:TypeId)(x y:D)(H:AHeap):tB w P t .eql x y H=JD P t .eql x y H:=by cases w<;>rfl
@[go_sem] theorem acU (w:Bool)(P:Program)(t:TypeId)(x y:D)(H:AHeap):tB w P t .neq x y H=JD P t .neq x y H:=by cases w<;>rfl
@[go_sem] theorem acW (w:Bool)(P:Program)(t:TypeId)(x y:D)(H:AHeap):tB w P t .lss x y H=JD P t .lss x y H:=by cases w<;>rfl
@[go_sem] theorem acX (w:Bool)(P:Program)(t:TypeId)(x y:D)(H:AHeap):tB w P t .leq x y H=JD P t .leq x y H:=by cases w<;>rfl
@[go_sem] theorem acY (w:Bool)(P:Program)(t:TypeId)(x y:D)(H:AHeap):tB w P t .gtr x y H=JD P t .gtr x y H:=by cases w<;>rfl
@[go_sem] theorem acZ (w:Bool)(P:Program)(t:TypeId)(x y:D)(H:AHeap):tB w P t .geq x y H=JD P t .geq x y H:=by cases w<;>rfl
@[go_sem] theorem ac1 (w:Bool)(P:Program)(t:TypeId)(x y:D)(H:AHeap):tB w P t .and x y H=JD P t .and x y H:=by cases w<;>rfl
@[go_sem] theorem acQ (w:Bool)(P:Program)(t:TypeId)(x y:D)(H:AHeap):tB w P t .shr x y H=JD P t .shr x y H:=by cases w<;>rfl
@[go_sem] theorem acT (P:Program)(t:TypeId)(a:BinOp)(x y:D)(H:AHeap):tB false P t a x y H=JD P t a x y H:=by cases a<;>cases x<;>cases y<;>rfl
@[go_sem] theorem acP (P:Program)(t:TypeId)(k k':IntKind)(a b:Int)(H:AHeap):tB true P t .sub (.int k a) (.int k' b) H=⟨k=k',True,.int k (k.wrap (a - b)),H⟩:=rfl
@[go_sem] theorem aeQ (u:UnOp)(t:TypeId)(x:Operand):nP P md nid ops e ⟨d,.unOp u t x,ty,p,af,none⟩ H=.op (Ww u (fC e x) H):=rfl
@[go_sem] theorem ZA (s t:TypeId)(x:Operand):nP P md nid ops e ⟨d,.convert s t x,ty,p,af,none⟩ H=.op (nK P s t (fC e x) H):=rfl
@[go_sem] theorem Yp (f:FuncId)(caps:Array Operand):nP P md nid ops e ⟨d,.makeFunc (.func f) #[] caps,ty,p,af,none⟩ H=.op ⟨True,True,.fn f (caps.toList.map (fC e)),H⟩:=rfl
@[go_sem] theorem XI (t:TypeId)(l c:Operand):nP P md nid ops e ⟨d,.makeSlice t l c,ty,p,af,none⟩ H=.op (D0 P nid t (fC e l) (fC e c) H):=rfl
@[go_sem] theorem ac8 (t:TypeId)(x:Operand)(lo hi:Option Operand):nP P md nid ops e ⟨d,.slice t x lo hi none,ty,p,af,none⟩ H=.op (rI P t (fC e x) (lo.map (fC e)) (hi.map (fC e)) H):=rfl
@[go_sem] theorem XK (t:TypeId)(x:Operand)(f:Nat):nP P md nid ops e ⟨d,.fieldAddr t x f,ty,p,af,none⟩ H=.op (iO P t (fC e x) f H):=rfl
@[go_sem] theorem XJ (t:TypeId)(x i:Operand):nP P md nid ops e ⟨d,.indexAddr t x i,ty,p,af,none⟩ H=.op (iM P t (fC e x) (fC e i) H):=rfl
@[go_sem] theorem ac9 (t:TypeId)(x i:Operand):nP P md nid ops e ⟨d,.index t x i,ty,p,af,none⟩ H=.op (uM P t (fC e x) (fC e i) H):=rfl
@[go_sem] theorem Zz (x:Operand)(i:Nat):nP P md nid ops e ⟨d,.extract x i,ty,p,af,none⟩ H=.op (nJ (fC e x) i H):=rfl
@[go_sem] theorem ZB (b:Builtin)(args:Array Operand)(ts:Array TypeId):nP P md nid ops e ⟨d,.call ⟨.builtin b,args,ts⟩,ty,p,af,none⟩ H=.op (xX P nid b (args.toList.map (fC e)) ts.toList H):=rfl
@[go_sem] theorem aeU (f:FuncId)(args:Array Operand)(ts:Array TypeId):nP P md nid ops e ⟨d,.call ⟨.value (.func f),args,ts⟩,ty,p,af,none⟩ H=.call f (args.toList.map (fC e)):=by
 simp [nP,gZ,fC,Mj]
end
@[go_sem] theorem Zl (P:Program)(md:Nat->Bool)(ops:Array Oper)(rest:List Oper)(e:eF)(H:AHeap)(K:eF->AHeap->Prop)(d:Option Tmp)(op:Op)(ty:TypeId)(p:String)(af:Array Edge)(g:Option (Nat × Bool)) :
 nX P md ops (⟨d,op,ty,p,af,g⟩ :: rest) e H K=AJ P md ops rest e d H K (nP P md H.next ops e ⟨d,op,ty,p,af,g⟩ H):=UL P md ops _ rest e H K
/-! ### code -/
section
variable (P:Program) (c:Cfg) (Q:Exit→eF→AHeap→Prop) (e:eF) (H:AHeap)
def zH (P:Program)(c:Cfg)(a b:Code)(Q:Exit->eF->AHeap->Prop)(e:eF)(H:AHeap):D->Prop
 | .bool t=>(t=true->pD P c a Q e H)/\(t=false->pD P c b Q e H)
 | _=>False
def BH (P:Program)(c:Cfg)(b:Code)(Q:Exit->eF->AHeap->Prop)(e:eF)(H:AHeap):Prop:=pD P c (.loop b) Q e H
@[go_sem] theorem aeL:pD P c .skip Q e H=Q .normal e H:=rfl
@[go_sem] theorem aaD (a:Nat)(l:List Oper):pD P c (.region a l.toArray false) Q e H=nX P c.own l.toArray l e H (Q .normal):=by
 simp [pD]
@[go_sem] theorem aeO (a:Nat)(l:List Oper):pD P c (.region a l.toArray true) Q e H=j9 P c.own l.toArray (c.sp a) H.next 0 l [] e ⟨H.next+l.length,H.F,H.get⟩ (Q .normal):=by
 simp [pD]
@[go_sem] theorem afE (a b:Code):pD P c (.seq a b) Q e H=pD P c a (uU (pD P c b Q) Q) e H:=rfl
@[go_sem] theorem aeP (x:Operand)(a b:Code):pD P c (.cond x a b) Q e H=zH P c a b Q e H (fC e x):=rfl
@[go_sem] theorem ac4 (id:Nat)(b:Code):pD P c (.block id b) Q e H=pD P c b (Cs id Q) e H:=rfl
@[go_sem] theorem aeM (b:Code):pD P c (.loop b) Q e H=BH P c b Q e H:=rfl
@[go_sem] theorem aeN (id:Nat):pD P c (.exit id) Q e H=Q (.exit id) e H:=rfl
@[go_sem] theorem afF:pD P c .ret Q e H=Q .ret e H:=rfl
@[go_sem] theorem Zd (a b:Code):zH P c a b Q e H (.bool true)=pD P c a Q e H:=by simp [zH]
@[go_sem] theorem X4 (a b:Code):zH P c a b Q e H (.bool false)=pD P c b Q e H:=by simp [zH]
@[go_sem] theorem WQ (n:eF->AHeap->Prop):uU n Q .normal e H=n e H:=rfl
@[go_sem] theorem Zr (n:eF->AHeap->Prop):uU n Q .ret e H=Q .ret e H:=rfl
@[go_sem] theorem Yh (n:eF->AHeap->Prop)(i:Nat):uU n Q (.exit i) e H=Q (.exit i) e H:=rfl
@[go_sem] theorem WI (i:Nat):Cs i Q .normal e H=Q .normal e H:=rfl
@[go_sem] theorem Zj (i:Nat):Cs i Q .ret e H=Q .ret e H:=rfl
@[go_sem] theorem P9 (i j:Nat):Cs i Q (.exit j) e H=if j=i then Q .normal e H else Q (.exit j) e H:=rfl
@[go_sem] theorem abB (rs:List ResultVar)(R:D->AHeap->Prop):TC P rs R .ret e H=DY P rs e H λl=>R (Hb l) H:=rfl
@[go_sem] theorem XM (rs:List ResultVar)(R:D->AHeap->Prop):TC P rs R .normal e H=DY P rs e H λl=>R (Hb l) H:=rfl
@[go_sem] theorem acO (K:UN->Prop):DY P [] e H K=K []:=rfl
@[go_sem] theorem acN (t:Tmp)(r:List ResultVar)(K:UN->Prop):DY P (.tmp t :: r) e H K=DY P r e H λl=>K (e t :: l):=rfl
@[go_sem] theorem Z9 (a:Tmp)(t:TypeId)(r:List ResultVar)(K:UN->Prop):DY P (.cell a t :: r) e H K=((oH P t (e a) H).cond/\DY P r e H λl=>K ((oH P t (e a) H).val :: l)):=rfl
@[go_sem] theorem aaJ (d:D):Hb [d]=d:=rfl
end
attribute [go_sem] if_true if_false fA Bool.true_eq_false eq_self true_and and_true forall_const true_implies false_implies jF iH List.toList_toArray dM Option.map_none
 KC oA dS dF rS eZ implies_true
attribute [go_sem] Kz JD oH mN eO iO iM GF kQ qG D0 NA y0 uN iV rI uM nK AR wM DZ jM Ww nJ E9 xX wN uK fN AOut.bad
 p9 fP D.cells BJ BK.bV WE ite_self
@[go_sem] theorem ad9 (id:Nat):AHeap.an.get id=none:=rfl
@[go_sem] theorem abS:AHeap.an.next=0:=rfl
@[go_sem] theorem ab5 (H:AHeap)(i j:Nat)(k:Blk):(H.push i k).get j=if j=i then some k else H.get j:=rfl
@[go_sem] theorem ad7 (H:AHeap)(i j:Nat)(k:Blk):(H.put i k).get j=if j=i then some k else H.get j:=rfl
@[go_sem] theorem ZS (H:AHeap)(i:Nat)(k:Blk):(H.push i k).next=if i<H.next then H.next else i+1:=rfl
@[go_sem] theorem abQ (H:AHeap)(i:Nat)(k:Blk):(H.put i k).next=H.next:=rfl
@[go_sem] theorem ab6 (n:Nat)(al:Nat->Prop)(g:Nat->Option Blk)(j:Nat):(AHeap.mk n al g).get j=g j:=rfl
@[go_sem] theorem ZT (n:Nat)(al:Nat->Prop)(g:Nat->Option Blk):(AHeap.mk n al g).next=n:=rfl
section
variable (H:AHeap)
@[go_sem] theorem aa8 (k:IntKind)(n:Int):fI H (.int k n)=.int k n:=rfl
@[go_sem] theorem ZN (b:Bool):fI H (.bool b)=.bool b:=rfl
@[go_sem] theorem aa5 (b:ByteArray):fI H (.str b)=.str b:=rfl
@[go_sem] theorem aa7:fI H .nil=.nil:=rfl
@[go_sem] theorem ZM (es:UE):fI H (.list es)=.list es:=rfl
@[go_sem] theorem aa9 (es:UN):fI H (.adr es)=.adr es:=rfl
@[go_sem] theorem ZK:fI H .nilp=.nilp:=rfl
@[go_sem] theorem ZL:fI H .nilf=.nilf:=rfl
@[go_sem] theorem adG (f:FuncId)(l:UN):fI H (.fn f l)=.fn f l:=rfl
@[go_sem] theorem aa6 (id n:Nat):fI H (.own id n)=match H.get id with|some k=>if k.U.length=n then .list k.U else .own id n|none=>.own id n:=rfl
@[go_sem] theorem aa4 (id n lo hi:Nat):fI H (.win id n lo hi)=match H.get id with|some k=>if k.U.length=n then .list ((k.U.take hi).drop lo) else .win id n lo hi|none=>.win id n lo hi:=rfl
@[go_sem] theorem aaW (id n lo hi:Nat):iU H (.win id n lo hi)=fI H (.win id n lo hi):=rfl
@[go_sem] theorem aaO (id n lo hi:Nat):rZ H (.win id n lo hi)=fI H (.win id n lo hi):=rfl
@[go_sem] theorem aa1 (k:IntKind)(n:Int):iU H (.int k n)=.int k n:=rfl
@[go_sem] theorem ZJ (b:Bool):iU H (.bool b)=.bool b:=rfl
@[go_sem] theorem aaX (b:ByteArray):iU H (.str b)=.str b:=rfl
@[go_sem] theorem aa0:iU H .nil=.nil:=rfl
@[go_sem] theorem ZI (es:UE):iU H (.list es)=.list es:=rfl
@[go_sem] theorem aa3 (es:UN):iU H (.adr es)=.adr es:=rfl
@[go_sem] theorem ZG:iU H .nilp=.nilp:=rfl
@[go_sem] theorem ZH:iU H .nilf=.nilf:=rfl
@[go_sem] theorem adF (f:FuncId)(l:UN):iU H (.fn f l)=.fn f l:=rfl
@[go_sem] theorem aa2 (l:UN):iU H (.agg l)=.agg (l.map (fI H)):=rfl
@[go_sem] theorem aaZ (id n:Nat):iU H (.own id n)=fI H (.own id n):=rfl
@[go_sem] theorem aaP (l:UN):rZ H (.tup l)=.tup (l.map (iU H)):=rfl
@[go_sem] theorem aaT (k:IntKind)(n:Int):rZ H (.int k n)=.int k n:=rfl
@[go_sem] theorem ZF (b:Bool):rZ H (.bool b)=.bool b:=rfl
@[go_sem] theorem aaQ (b:ByteArray):rZ H (.str b)=.str b:=rfl
@[go_sem] theorem aaS:rZ H .nil=.nil:=rfl
@[go_sem] theorem ZE (es:UE):rZ H (.list es)=.list es:=rfl
@[go_sem] theorem aaV (es:UN):rZ H (.adr es)=.adr es:=rfl
@[go_sem] theorem ZC:rZ H .nilp=.nilp:=rfl
@[go_sem] theorem ZD:rZ H .nilf=.nilf:=rfl
@[go_sem] theorem adE (f:FuncId)(l:UN):rZ H (.fn f l)=.fn f l:=rfl
@[go_sem] theorem aaU (l:UN):rZ H (.agg l)=.agg (l.map (fI H)):=rfl
@[go_sem] theorem aaR (id n:Nat):rZ H (.own id n)=fI H (.own id n):=rfl
end
@[go_sem] theorem ab1 (k:IntKind)(n:Int):lQ (.int k n)=[]:=rfl
@[go_sem] theorem ZY (b:Bool):lQ (.bool b)=[]:=rfl
@[go_sem] theorem abY (b:ByteArray):lQ (.str b)=[]:=rfl
@[go_sem] theorem ab0:lQ .nil=[]:=rfl
@[go_sem] theorem ZX (es:UE):lQ (.list es)=[]:=rfl
@[go_sem] theorem ab2 (es:UN):lQ (.adr es)=[]:=rfl
@[go_sem] theorem ZV:lQ .nilp=[]:=rfl
@[go_sem] theorem ZW:lQ .nilf=[]:=rfl
@[go_sem] theorem ad0 (f:FuncId)(l:UN):lQ (.fn f l)=[]:=rfl
@[go_sem] theorem abX (id n lo hi:Nat):lQ (.win id n lo hi)=[id]:=rfl
@[go_sem] theorem Yt (id n lo hi:Nat):dW (.win id n lo hi)=[id]:=rfl
@[go_sem] theorem abZ (id n:Nat):lQ (.own id n)=[id]:=rfl
@[go_sem] theorem Yy (k:IntKind)(n:Int):dW (.int k n)=[]:=rfl
@[go_sem] theorem XR (b:Bool):dW (.bool b)=[]:=rfl
@[go_sem] theorem Yu (b:ByteArray):dW (.str b)=[]:=rfl
@[go_sem] theorem Yx:dW .nil=[]:=rfl
@[go_sem] theorem XQ (es:UE):dW (.list es)=[]:=rfl
@[go_sem] theorem YA (es:UN):dW (.adr es)=[]:=rfl
@[go_sem] theorem XO:dW .nilp=[]:=rfl
@[go_sem] theorem XP:dW .nilf=[]:=rfl
@[go_sem] theorem ZQ (f:FuncId)(l:UN):dW (.fn f l)=[]:=rfl
@[go_sem] theorem Yw (id n:Nat):dW (.own id n)=[id]:=rfl
@[go_sem] theorem Yz (l:UN):dW (.agg l)=l.flatMap lQ:=rfl
@[go_sem] theorem ab7 (H:AHeap)(id:Nat):H.aP id=match H.get id with|some k=>H.put id { k with fz:=true } | none=>H:=rfl
@[go_sem] theorem abC (H:AHeap)(a:Nat)(k b:Blk):(H.push a k).put a b=H.push a b:=by
 unfold AHeap.push AHeap.put;grind
@[go_sem] theorem adJ (H:AHeap)(a:Nat)(k b:Blk):(H.put a k).put a b=H.put a b:=by
 unfold AHeap.put;grind
section
variable {P:Program} {c:Cfg} {Q:Exit→eF→AHeap→Prop} {e:eF} {H:AHeap} {a b:Code}
theorem bC {t:Bool}(h1:t=true->pD P c a Q e H)(h2:t=false->pD P c b Q e H):zH P c a b Q e H (.bool t):=⟨h1,h2⟩
theorem f9 {p:Prop}[Decidable p](h1:p->pD P c a Q e H)(h2:¬ p->pD P c b Q e H):zH P c a b Q e H (.bool (decide p)):=⟨λh=>h1 (of_decide_eq_true h),λh=>h2 (of_decide_eq_false h)⟩
end
attribute [irreducible] zH fE AD BH
end Go.Abs
end
section
namespace Go.Abs
section
variable {P:Program} {c:Cfg} {md:Nat→Bool}
theorem JB {t:Option Nat}{nid:Nat}{ops:Array Oper}{e:eF}{o:Oper}{H:AHeap}{K K':D->AHeap->List Nat->Prop}(d:∀ v H F,K v H F->K' v H F)(h:qF P md t nid ops e o H K):qF P md t nid ops e o H K':=by
 unfold qF at h ⊢;cases x:o.guard with
 | none =>
  simp only [x] at h ⊢;cases k:gZ e o with
  | none=>simp only [k] at h ⊢;exact ⟨h.1,λhf=>d _ _ _ (h.2 hf)⟩
  | some p =>
   obtain ⟨f,s⟩:=p;simp only [k] at h ⊢;cases t with
   | none=>exact h.mono λ_ _ h=>d _ _ _ h
   | some m =>
    rcases h with ⟨r,S,y,c⟩|⟨z,r,S,u,q,A,hq,y,c⟩
    .exact .inl ⟨r,S,y,d _ _ _ c⟩
    grind
 | some p =>
  obtain ⟨j,b⟩:=p;simp only [x] at h ⊢;cases i:gD ops e j with
  | none=>simp only [i] at h
  | some gc =>
   obtain ⟨g,B⟩:=gc;simp only [i] at h ⊢;refine ⟨h.1,?_⟩;have c:=h.2;cases k:gZ (gE e o.op) o with
   | none=>simp only [k] at c ⊢;exact ⟨c.1,λhf=>d _ _ _ (c.2 hf)⟩
   | some p =>
    obtain ⟨f,s⟩:=p;simp only [k] at c ⊢;cases t with
    | some _=>obtain ⟨r,S,n,l⟩:=c;exact ⟨r,S,n,d _ _ _ l⟩
    | none =>
     rcases c with ⟨r,S,n,l⟩|⟨n,l⟩
     .exact .inl ⟨r,S,n,d _ _ _ l⟩
     .exact .inr ⟨λhq=>(n hq).mono λ_ _ h=>d _ _ _ h,λhq=>(l hq).imp λ_ h=>d _ _ _ h⟩
theorem L1 {ops:Array Oper}{K K':eF->AHeap->Prop}(hk:∀ e H,K e H->K' e H):∀ (l:List Oper) (e:eF) (H:AHeap),nX P md ops l e H K->nX P md ops l e H K'
 | [],e,H,h=>hk _ _ h
 | o :: l,e,H,h=>by
  unfold nX at h ⊢;exact JB (λv H' _ h=>L1 hk l _ _ h) h
theorem JE {ops:Array Oper}{sp:List (Nat × Nat)}{n0:Nat}{K K':eF->AHeap->Prop}(hk:∀ e H,K e H->K' e H):∀ (l:List Oper) (i:Nat) (acc:List (Nat × List Nat)) (e:eF) (H:AHeap),
  j9 P md ops sp n0 i l acc e H K->j9 P md ops sp n0 i l acc e H K'
 | [],i,acc,e,H,h=>by unfold j9 at h ⊢;exact hk _ _ h
 | o :: l,i,acc,e,H,h=>by
  unfold j9 at h ⊢;exact JB (λv H' _ h=>⟨h.1,JE hk l _ _ _ _ h.2⟩) h
theorem xZ {n a:eF->AHeap->Prop}{Q b:Exit->eF->AHeap->Prop}(d:∀ e H,n e H->a e H)(c:∀ x e H,Q x e H->b x e H):∀ x e H,uU n Q x e H->uU a b x e H:=by
 intro x e H h;cases x<;>first|exact d _ _ h|exact c _ _ _ h
theorem P8 {i:Nat}{Q a:Exit->eF->AHeap->Prop}(b:∀ x e H,Q x e H->a x e H):∀ x e H,Cs i Q x e H->Cs i a x e H:=by
 intro x e H h;cases x<;>first|exact b _ _ _ h|skip
 rename_i j;rw [P9] at h ⊢;grind
theorem sJ:∀ (x:Code) {Q Q':Exit->eF->AHeap->Prop} (hq:∀ x e H,Q x e H->Q' x e H) (e:eF) (H:AHeap),pD P c x Q e H->pD P c x Q' e H
 | .skip,Q,Q',hq,e,H,h=>hq _ _ _ h
 | .region id ops dr,Q,Q',hq,e,H,h=>by
  unfold pD at h ⊢;cases dr with
  | false=>simp only [fA,if_false] at h ⊢;exact L1 (λe H h=>hq _ _ _ h) _ _ _ h
  | true=>simp only [if_true] at h ⊢;exact JE (λe H h=>hq _ _ _ h) _ _ _ _ _ h
 | .seq a b,Q,Q',hq,e,H,h=>by
  unfold pD at h ⊢;exact sJ a (xZ (λe H h=>sJ b hq e H h) hq) e H h
 | .cond x a b,Q,Q',hq,e,H,h=>by
  unfold pD at h ⊢;cases hv:fC e x<;>simp only [hv] at h ⊢<;>try (exact h.elim)
  exact ⟨λht=>sJ a hq e H (h.1 ht),λht=>sJ b hq e H (h.2 ht)⟩
 | .block id b,Q,Q',hq,e,H,h=>by
  unfold pD at h ⊢;exact sJ b (P8 hq) e H h
 | .loop b,Q,Q',hq,e,H,h=>by
  unfold pD at h ⊢;obtain ⟨I,h0,hI⟩:=h;exact ⟨I,h0,λk e' H' hi=>sJ b (xZ (λ_ _ h=>h) hq) _ _ (hI k e' H' hi)⟩
 | .exit id,Q,Q',hq,e,H,h=>hq _ _ _ h
 | .ret,Q,Q',hq,e,H,h=>hq _ _ _ h
 | .rangeFunc ..,Q,Q',hq,e,H,h=>h.elim
 | .scope ..,Q,Q',hq,e,H,h=>h.elim
 | .label ..,Q,Q',hq,e,H,h=>h.elim
 | .goto ..,Q,Q',hq,e,H,h=>h.elim
 | .refuse ..,Q,Q',hq,e,H,h=>h.elim
theorem fT {b:Code}{Q:Exit->eF->AHeap->Prop}{e:eF}{H:AHeap}{ι:Type}(I:ι->eF->AHeap->Prop)(μ:ι->Nat)(g:ι)(m:I g e H)
  (j:∀ x e H,I x e H->pD P c b (uU (λe' H'=>∃ x',μ x'<μ x/\I x' e' H') Q) e H):BH P c b Q e H:=by
 unfold BH pD;refine ⟨λk e H=>∃ x,μ x=k/\I x e H,⟨H,.refl H,_,g,rfl,m⟩,λk e' H' ⟨x,l,i⟩=>sJ b (xZ (λe'' f ⟨x',d,a⟩=>⟨f,.refl _,_,l ▸ d,x',rfl,a⟩) λ_ _ _ h=>h) _ _ (j x e' H' i)⟩
theorem Dl {b:Code}{Q:Exit->eF->AHeap->Prop}{e:eF}{H H':AHeap}(m:Ghosts H H'){ι:Type}(I:ι->eF->AHeap->Prop)(μ:ι->Nat)(g:ι)(n:I g e H')
  (j:∀ x e H,I x e H->pD P c b (uU (λe' H'=>∃ H3,Ghosts H' H3/\∃ x',μ x'<μ x/\I x' e' H3) Q) e H):BH P c b Q e H:=by
 unfold BH pD;refine ⟨λk e H=>∃ x,μ x=k/\I x e H,⟨H',m,_,g,rfl,n⟩,λk e' H' ⟨x,l,i⟩=>sJ b (xZ (λe'' H'' ⟨H3,f,x',d,a⟩=>⟨H3,f,_,l ▸ d,x',rfl,a⟩) λ_ _ _ h=>h) _ _ (j x e' H' i)⟩
theorem aB {ops:Array Oper}{a:List Oper}{e:eF}{b:Option Tmp}{K:eF->AHeap->Prop}{f:FuncId}{args:UN}{H:AHeap}{r:D}(d:Pure P f args r)(c:D.L args=true)
 (h:nX P md ops a (pG e b r) H K):fE P md ops a e b K f args H:=by grind [fE, tC]
theorem dX {ops:Array Oper}{a:List Oper}{e:eF}{b:Option Tmp}{K:eF->AHeap->Prop}{f:FuncId}{args args':UN}{H:AHeap}{r:D}(d:Pure P f args' r)(i:args.map (iU H)=args')(c:D.L args'=true)(g:r.aD=true)
 (h:nX P md ops a (pG e b r) H K):fE P md ops a e b K f args H:=by grind [fE, y3]
theorem AM {ops:Array Oper}{a:List Oper}{e:eF}{b:Option Tmp}{K:eF->AHeap->Prop}{f:FuncId}{args args':UN}{H H':AHeap}{r:D}(g:Pure P f args' r)(i:args.map (iU H)=args')(c:D.L args'=true)
 (d:fN (args.flatMap dW) H=H') (h:nX P md ops a (pG e b r) H' K):fE P md ops a e b K f args H:=by grind [fE, NF]
theorem lG {ops:Array Oper}{a:List Oper}{e:eF}{b:Option Tmp}{K:eF->AHeap->Prop}{f:FuncId}{args:UN}{H:AHeap}{ty:TypeId}{sz:Nat}{es:UE}(d:Own P f args ty sz es)(c:D.L args=true)
 (h:nX P md ops a (pG e b (.own H.next es.length)) (H.push H.next ⟨ty,sz,es,false⟩) K):fE P md ops a e b K f args H:=by grind [fE, F9]
end
end Go.Abs
end
