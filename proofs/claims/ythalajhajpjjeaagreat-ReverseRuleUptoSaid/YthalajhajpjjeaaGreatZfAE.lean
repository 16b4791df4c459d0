/- The abstraction layer, part S: whole bodies, functions, cont -/
import Derived.Test.YthalajhajpjjeaaGreatZfAD
set_option linter.unusedVariables false
set_option linter.unusedSimpArgs false
section
namespace Go.Abs
abbrev dM:=Nat->D
structure Cfg where
 own:Nat->Bool
 sp:Nat->List (Nat × Nat)
def Gl (H:AHeap)(id i off:Nat)(ty sz:Nat):AHeap :=
 match H.get id with
 | some k=>(H.put id { k with es:=k.es.set i ((k.es[i]?.getD []).set off (.own H.next 0)) }).push H.next ⟨ty,sz,[],false⟩
 | none=>H
def AHeap.drop (H:AHeap)(id:Nat):AHeap:=⟨H.next,H.al,λi=>if i=id then none else H.get i⟩
def AF (H:AHeap)(id i off q hi:Nat):AHeap :=
 match H.get id,H.get q with
 | some k,some kq=>(((H.drop q).push H.next ⟨kq.ty,kq.sz,kq.es.take hi,false⟩).put id { k with es:=k.es.set i ((k.es[i]?.getD []).set off (.own H.next hi)) })
 | _,_=>H
inductive Ghosts:AHeap->AHeap->Prop
 | refl (H:AHeap):Ghosts H H
 | trunc {H H1:AHeap} (h:Ghosts H H1) (id i off q hi:Nat) (k kq:Blk) (c:List D) (hk:H1.get id=some k) (hf:k.fz=false) (hc:k.es[i]?=some c) (hq:H1.get q=some kq) (hn:c[off]?=some (.win q kq.es.length 0 hi)) (hqf:kq.fz=false) (hne:id≠q):Ghosts H (AF H1 id i off q hi)
 | step {H H1:AHeap} (h:Ghosts H H1) (id i off ty sz:Nat) (k:Blk) (c:List D) (hk:H1.get id=some k) (hf:k.fz=false) (hc:k.es[i]?=some c) (hn:c[off]?=some .nil):Ghosts H (Gl H1 id i off ty sz)
def sN (next:dM->AHeap->Prop)(Q:Exit->dM->AHeap->Prop):Exit->dM->AHeap->Prop
 | .normal,e,H=>next e H
 | ex,e,H=>Q ex e H
def AT (id:Nat)(Q:Exit->dM->AHeap->Prop):Exit->dM->AHeap->Prop
 | .exit id',e,H=>if id'=id then Q .normal e H else Q (.exit id') e H
 | ex,e,H=>Q ex e H
def oA (P:Program)(c:Cfg):Code->(Exit->dM->AHeap->Prop)->dM->AHeap->Prop
 | .skip,Q,e,H=>Q .normal e H
 | .region id ops dr,Q,e,H =>
  if dr then jX P c.own ops (c.sp id) H.next 0 ops.toList [] e { H with next:=H.next+ops.size } (Q .normal)
  else mS P c.own ops ops.toList e H (Q .normal)
 | .seq a b,Q,e,H=>oA P c a (sN (oA P c b Q) Q) e H
 | .cond x a b,Q,e,H=>match e8 e x with
  | .bool t=>(t=true->oA P c a Q e H)/\(t=false->oA P c b Q e H)
  | _=>False
 | .block id b,Q,e,H=>oA P c b (AT id Q) e H
 | .loop b,Q,e,H=>∃ I:Nat->dM->AHeap->Prop,(∃ H',Ghosts H H'/\∃ k,I k e H')/\∀ k e' H',I k e' H'->oA P c b (sN (λe'' H''=>∃ H3,Ghosts H'' H3/\∃ k',k'<k/\I k' e'' H3) Q) e' H'
 | .exit id,Q,e,H=>Q (.exit id) e H
 | .ret,Q,e,H=>Q .ret e H
 | _,_,_,_=>False
def oW (c:Cfg)(n:Nat):Code->Bool
 | .region id ops dr=>(ops.toList.all λo=>qG n o.dst)&&(!dr||vC c.own ops (c.sp id))
 | .seq a b=>oW c n a&&oW c n b
 | .cond _ a b=>oW c n a&&oW c n b
 | .block _ b=>oW c n b
 | .loop b=>oW c n b
 | _=>true
section
variable {P:Program} {c:Cfg} {n:Nat} {M0:Nat→Prop}
theorem iJ {x:Code}{Q Q':Exit->Act->World->Prop}{a:Act}{w:World}(h:x.wp P Q a w)(hq:∀ e a w,Q e a w->Q' e a w):x.wp P Q' a w:=wp_mono h hq
theorem gA {p:Nat->Prop}(h:∃ k,p k):∃ k,p k/\∀ j,j<k->¬ p j:=by
 obtain ⟨k,hk⟩:=h
 induction k using Nat.strongRecOn with
 | _ k ih =>
  grind
def PN (n:Nat)(M0:Nat->Prop)(H0:AHeap)(σ0:Nat->Option Ow)(w0:World)(Q:Exit->dM->AHeap->Prop)(ex:Exit)(a:Act)(w:World):Prop:=Came n M0 H0 σ0 w0 (Q ex) a w
theorem vY {sz:Nat}(d:D)(off:Nat)(c:List D):∀ (es:List (List D)) (i:Nat),(∀ c∈es,c.length=sz)->es[i]?=some c->off<sz->(es.set i (c.set off d)).flatten=es.flatten.set (i * sz+off) d
 | [],i,_,h,_=>by simp at h
 | a :: es,0,hl,h,ho=>by
  simp at h;subst h
  have:=hl a bV
  simp only [tY,eV,Nat.zero_mul,eP]
  rw [List.set_append_left _ _ aD]
 | a :: es,i+1,hl,h,ho=>by
  have ha:=hl a bV
  simp at h
  have ih:=vY d off c es i (λc hc=>hl c (by simp [hc])) h ho
  simp only [De,eV,ih]
  rw [l5 _ _ (by rw [Nat.add_mul];omega)]
  congr 2
  rw [ha,Nat.add_mul];omega
theorem Mx {H:AHeap}{σ:Nat->Option Ow}{w:World}(B:Rel M0 H σ w){f i a ty sz:Nat}{k:Blk}{m:List D}(z:H.get f=some k)(X:k.fz=false)(r:k.es[i]?=some m)(hn:m[a]?=some .nil) :
  ∃ σ',Rel M0 (Gl H f i a ty sz) σ' w/\Stp σ w σ' w/\Keeps (dB M0 H σ) σ H.al w (dB M0 (Gl H f i a ty sz) σ') σ' (Gl H f i a ty sz).al w:=by
 have A:¬ H.al H.next:=λh=>n7 _ (B.nxt _ h)
 have I:H.al f:=bB λhn=>by rw [(B.top f hn).2] at z;cases z
 have y:f≠H.next:=λh=>A (h ▸ I)
 obtain ⟨S,R,M⟩:=Rel.push B H.next A (w':=w) rfl rfl rfl (bC _) (λ_ _=>rfl) ⟨ty,sz,[],false⟩ ⟨0,.slice none 0 0,sz,ty⟩ (λb hb=>by simp [Ow.block,Value.ownBlock] at hb) rfl rfl rfl (λc r=>by simp at r) []
  ⟨by simp,.inl ⟨rfl,rfl⟩⟩ bV ⟨rfl,λj u d hu=>by simp at hu⟩
 obtain ⟨o,U,l⟩:=B.lies f k z
 obtain ⟨N,t,C,v⟩:=l.row
 have G:(H.push H.next ⟨ty,sz,[],false⟩).get f=some k:=by simp [AHeap.push,y,z]
 have E:(λi=>if i=H.next then some (⟨0,.slice none 0 0,sz,ty⟩:Ow) else σ i) f=some o:=by simp [y,U]
 have n:=l.esz m (aK r)
 have g:a<o.esz:=by rw [<- n];exact (aM.1 hn).1
 have p:∀ c∈k.es.set i (m.set a (.own H.next 0)),c.length=o.esz:=λc K=>by
  rcases mK K with h|h
  .exact l.esz c h
  grind
 have J:=vY (D.own H.next 0) a m k.es i l.esz r g
 obtain ⟨Q,P,O⟩:=Rel.put S G X E { k with es:=k.es.set i (m.set a (.own H.next 0)) } o ⟨rfl,rfl,rfl,bC _,λ_ _ _=>rfl⟩ (λb hb=>.inl hb) (.inl rfl) (by simp [l.ver]) l.ty l.sz p N (bW t) C (by
   have e:=v.keep M
   simp only
   rw [J]
   refine ⟨by simpa using e.len,λj u d hu q=>?_⟩
   rw [dX] at q
   split at q
   .rename_i V
    split at q
    .cases q
     have x:k.es.flatten[j]?=some .nil:=by
      rw [<- V,mD k.es i m l.esz r a g];exact hn
     have T:=e.rep j u _ hu x
     cases T
     exact .own _ _ _ (.inl rfl) rfl λo' ho'=>by simp at ho';subst ho';exact .inr ⟨rfl,rfl⟩
    .cases q
   .exact e.rep j u d hu q)
 have W:Gl H f i a ty sz=(H.push H.next ⟨ty,sz,[],false⟩).put f { k with es:=k.es.set i (m.set a (.own H.next 0)) }:=by
  simp only [Gl,z,r,Option.getD_some]
  unfold AHeap.push AHeap.put
  grind
 rw [W]
 exact ⟨_,Q,R.trans P,M.trans O⟩
theorem Ct {sz:Nat}:∀ (es:List (List D)) (n:Nat),(∀ c∈es,c.length=sz)->(es.take n).flatten=es.flatten.take (n * sz)
 | [],n,_=>by simp
 | a :: es,0,_=>by simp
 | a :: es,n+1,h=>by
  have ha:=h a bV
  rw [sH,eV,eV,Ct es n λc hc=>h c (by simp [hc]),Nat.add_mul,Nat.one_mul,Nat.add_comm,<- ha,List.take_length_add_append]
theorem PV {H:AHeap}{σ:Nat->Option Ow}{w:World}(hR:Rel M0 H σ w){q hi n:Nat}{kq:Blk}{oq:Ow}(hq:H.get q=some kq)(hqf:kq.fz=false)(hoq:σ q=some oq)(hn:¬ H.al n){v:Value}(hh:hi<=kq.es.length)(hv:Sq oq v kq.es.length 0 hi) :
  let σ':Nat->Option Ow:=λi=>if i=n then some ⟨hi,v,oq.esz,oq.ty⟩ else if i=q then none else σ i
  Rel M0 ((H.drop q).push n ⟨kq.ty,kq.sz,kq.es.take hi,false⟩) σ' w/\Stp σ w σ' w/\Keeps (dB M0 H σ) σ H.al w (dB M0 ((H.drop q).push n ⟨kq.ty,kq.sz,kq.es.take hi,false⟩) σ') σ' ((H.drop q).push n ⟨kq.ty,kq.sz,kq.es.take hi,false⟩).al w:=by
 intro σ'
 have hqal:H.al q:=bB λh=>by rw [(hR.top q h).1] at hoq;cases hoq
 have hqn:q≠n:=λe=>hn (e ▸ hqal)
 have hblk:∀ b,v.ownBlock=some b->oq.block=some b:=λb hb=>by
  rcases hv with ⟨_,rfl,_⟩|⟨b',cap,h1,h2,rfl⟩
  .simp [Value.ownBlock] at hb
  .simp only [Value.ownBlock] at hb
   simp only [Ow.block,h1,Value.ownBlock]
   rw [<- hb];split<;>rfl
 have hmut:∀ b,dB M0 ((H.drop q).push n ⟨kq.ty,kq.sz,kq.es.take hi,false⟩) σ' b->dB M0 H σ b:=by
  rintro b (hm|⟨i,k',o',hk',hf,ho',hb'⟩)
  .exact .inl hm
  .by_cases h1:i=n
   .simp only [σ',h1,if_true,bD] at ho'
    subst ho'
    exact .inr ⟨q,kq,oq,hq,hqf,hoq,hblk b hb'⟩
   .by_cases h2:i=q
    .simp only [σ',h2,if_false,if_true,hqn] at ho';cases ho'
    .simp only [σ',h1,h2,if_false] at ho'
     simp only [AHeap.push,AHeap.drop,h1,h2,if_false] at hk'
     exact .inr ⟨i,k',o',hk',hf,ho',hb'⟩
 have hkeep:Keeps (dB M0 H σ) σ H.al w (dB M0 ((H.drop q).push n ⟨kq.ty,kq.sz,kq.es.take hi,false⟩) σ') σ' ((H.drop q).push n ⟨kq.ty,kq.sz,kq.es.take hi,false⟩).al w:=by
  refine ⟨λad u hm hu=>⟨λh=>hm (hmut _ h),hu⟩,λi o' hi' ho'=>?_,λi hi'=>.inr hi'⟩
  have h1:i≠n:=λe=>hn (e ▸ hi')
  by_cases h2:i=q
  .simp only [σ',h2,if_true,hqn,if_false] at ho';cases ho'
  .simp only [σ',h1,h2,if_false] at ho'
   exact ⟨o',ho',.inl rfl⟩
 have hold:∀ {i o'},i≠n->σ' i=some o'->i≠q/\σ i=some o':=λ {i o'} h1 ho'=>by
  by_cases h2:i=q
  .simp only [σ',h2,if_true,hqn,if_false] at ho';cases ho'
  .simp only [σ',h1,h2,if_false] at ho';exact ⟨h2,ho'⟩
 obtain ⟨o2,ho2,l⟩:=hR.lies q kq hq
 rw [hoq] at ho2;cases ho2
 obtain ⟨xs,hrow,hx1,hrep⟩:=l.row
 refine ⟨⟨λi hi'=>?_,λi hi'=>?_,λi k' hk'=>?_,λi j oi oj b hi' hj' hbi hbj=>?_,λi oi b hi' hbi=>?_,hR.m0⟩,⟨rfl,rfl,rfl,bC _,λ_ _ _=>rfl,λi o' b ho' hb'=>?_⟩,hkeep⟩
 .have hi2:¬ (i=n\/H.al i):=hi'
  have h1:i≠n:=λe=>hi2 (.inl e)
  have h2:i≠q:=λe=>hi2 (.inr (e ▸ hqal))
  simp only [σ',AHeap.push,AHeap.drop,h1,h2,if_false]
  exact hR.top i λe=>hi2 (.inr e)
 .have hi2:i=n\/H.al i:=hi'
  have he:((H.drop q).push n ⟨kq.ty,kq.sz,kq.es.take hi,false⟩).next=if n<H.next then H.next else n+1:=rfl
  rw [he]
  rcases hi2 with rfl|hi2
  .by_cases h:i<H.next
   .rw [if_pos h];exact h
   .rw [if_neg h];omega
  .have:=hR.nxt i hi2
   by_cases h:n<H.next
   .rw [if_pos h];exact this
   .rw [if_neg h];omega
 .by_cases h1:i=n
  .simp only [AHeap.push,h1,if_true,bD] at hk'
   subst hk'
   refine ⟨⟨hi,v,oq.esz,oq.ty⟩,by simp [σ',h1],by simp;omega,l.ty,l.sz,λc hc=>l.esz c (dC hc),xs.take (hi * oq.esz),⟨?_,?_⟩,λu hu=>hx1 u (dC hu),?_⟩
   .have:=hrow.1
    have h2:hi * oq.esz<=kq.es.length * oq.esz:=fE _ hh
    simp only [c6]
    rw [Nat.min_eq_left hh,Nat.min_eq_left aD]
   .have hm:(kq.es.take hi).length=hi:=by simp;omega
    simp only [hm]
    rcases hv with ⟨h1,h2,h3⟩|⟨b',cap,h1,h2,h3⟩
    .exact .inl ⟨h2,h3⟩
    .rcases hrow.2 with ⟨hn0,_⟩|⟨g,cap',cur,e1,e2,e3,e4,e5,e6,e7⟩
     .rw [h1] at hn0;cases hn0
     .rw [h1] at e1;cases e1
      refine .inr ⟨b',cap,cur,?_,dY _,e3,aD,e5,e6,?_⟩
      .rw [h3];simp
      .rw [<- e7,List.take_take,Nat.min_eq_left (fE _ hh)]
   .have hr:=hrep.keep hkeep
    refine ⟨?_,λj u d hu hd=>?_⟩
    .simp only
     rw [Ct kq.es hi l.esz]
     simp [hr.len]
    .simp only at hd
     rw [Ct kq.es hi l.esz,bY] at hd
     rw [bY] at hu
     split at hd
     .rename_i hj;rw [if_pos hj] at hu;exact hr.rep j u d hu hd
     .cases hd
  .by_cases h2:i=q
   .simp only [AHeap.push,AHeap.drop,h2,if_false,if_true,hqn] at hk';cases hk'
   .simp only [AHeap.push,AHeap.drop,h1,h2,if_false] at hk'
    obtain ⟨o',ho',l'⟩:=hR.lies i k' hk'
    obtain ⟨xs',a1,a2,a3⟩:=l'.row
    exact ⟨o',by simp [σ',h1,h2,ho'],l'.ver,l'.ty,l'.sz,l'.esz,xs',a1,a2,a3.keep hkeep⟩
 .by_cases h1:i=n<;>by_cases h2:j=n
  .rw [h1,h2]
  .simp only [σ',h1,if_true,bD] at hi'
   subst hi'
   obtain ⟨h3,h4⟩:=hold h2 hj'
   exact absurd (hR.inj j q oj oq b h4 hoq hbj (hblk b hbi)) h3
  .simp only [σ',h2,if_true,bD] at hj'
   subst hj'
   obtain ⟨h3,h4⟩:=hold h1 hi'
   exact absurd (hR.inj i q oi oq b h4 hoq hbi (hblk b hbj)) h3
  .exact hR.inj i j oi oj b (hold h1 hi').2 (hold h2 hj').2 hbi hbj
 .by_cases h1:i=n
  .simp only [σ',h1,if_true,bD] at hi'
   subst hi'
   exact hR.lt q oq b hoq (hblk b hbi)
  .exact hR.lt i oi b (hold h1 hi').2 hbi
 .by_cases h1:i=n
  .simp only [σ',h1,if_true,bD] at ho'
   subst ho'
   exact .inr ⟨q,oq,hoq,hblk b hb'⟩
  .exact .inr ⟨i,o',(hold h1 ho').2,hb'⟩
theorem Km {H:AHeap}{σ:Nat->Option Ow}{w:World}(J:Rel M0 H σ w){f i a q e:Nat}{k kq:Blk}{s:List D}(G:H.get f=some k)(hf:k.fz=false)(L:k.es[i]?=some s)(R:H.get q=some kq)
  (hn:s[a]?=some (.win q kq.es.length 0 e)) (Q:kq.fz=false) (F:f≠q) :
  ∃ σ',Rel M0 (AF H f i a q e) σ' w/\Stp σ w σ' w/\Keeps (dB M0 H σ) σ H.al w (dB M0 (AF H f i a q e) σ') σ' (AF H f i a q e).al w:=by
 have I:¬ H.al H.next:=λh=>n7 _ (J.nxt _ h)
 have X:H.al f:=bB λhn=>by rw [(J.top f hn).2] at G;cases G
 have r:f≠H.next:=λh=>I (h ▸ X)
 obtain ⟨K,C,lq⟩:=J.lies q kq R
 obtain ⟨o,ho,l⟩:=J.lies f k G
 obtain ⟨M,B,A,m⟩:=l.row
 have t:=l.esz s (aK L)
 have p:a<o.esz:=by rw [<- t];exact (aM.1 hn).1
 have n:k.es.flatten[i * o.esz+a]?=some (.win q kq.es.length 0 e):=by rw [mD k.es i s l.esz L a p];exact hn
 have U:i * o.esz+a<M.length:=by rw [m.len];exact (aM.1 n).1
 obtain ⟨v,N⟩:∃ v,M[i * o.esz+a]?=some v:=⟨_,aA U⟩
 have P:=m.rep _ v _ N n
 have E:v.oneCell'=true:=A v (aK N)
 obtain ⟨hh,hw⟩:e<=kq.es.length/\Sq K v kq.es.length 0 e:=by
  cases P
  rename_i _ _ V h
  refine ⟨V.2,?_⟩
  rcases h K C with h'|⟨_,h'⟩
  .have:=lq.ver;omega
  .exact h'
 obtain ⟨p1,p2,p3⟩:=PV J R Q C I hh hw
 have W:((H.drop q).push H.next ⟨kq.ty,kq.sz,kq.es.take e,false⟩).get f=some k:=by simp [AHeap.push,AHeap.drop,r,F,G]
 have S:(λi=>if i=H.next then some (⟨e,v,K.esz,K.ty⟩:Ow) else if i=q then none else σ i) f=some o:=by simp [r,F,ho]
 have x:∀ c∈k.es.set i (s.set a (.own H.next e)),c.length=o.esz:=λc Z=>by
  rcases mK Z with h|h
  .exact l.esz c h
  grind
 have Y:=vY (D.own H.next e) a s k.es i l.esz L p
 obtain ⟨q1,q2,q3⟩:=Rel.put p1 W hf S { k with es:=k.es.set i (s.set a (.own H.next e)) } o ⟨rfl,rfl,rfl,bC _,λ_ _ _=>rfl⟩ (λb hb=>.inl hb) (.inl rfl) (by simp [l.ver]) l.ty l.sz x M (bW B) A (by
   have g:=m.keep p3
   simp only
   rw [Y]
   refine ⟨by simpa using g.len,λj u d O y=>?_⟩
   rw [dX] at y
   split at y
   .rename_i hj
    split at y
    .cases y
     rw [<- hj,N] at O
     cases O
     exact .own _ _ _ (.inl rfl) E λo' ho'=>by simp at ho';subst ho';exact .inr ⟨rfl,rfl⟩
    .cases y
   .exact g.rep j u d O y)
 have hg:AF H f i a q e=((H.drop q).push H.next ⟨kq.ty,kq.sz,kq.es.take e,false⟩).put f { k with es:=k.es.set i (s.set a (.own H.next e)) }:=by
  simp only [AF,G,R,L,Option.getD_some]
 rw [hg]
 exact ⟨_,q1,p2.trans q2,p3.trans q3⟩
theorem vW {H H':AHeap}(j:Ghosts H H'){σ:Nat->Option Ow}{w:World}(l:Rel M0 H σ w):∃ σ',Rel M0 H' σ' w/\Stp σ w σ' w/\Keeps (dB M0 H σ) σ H.al w (dB M0 H' σ') σ' H'.al w:=by
 induction j with
 | refl=>exact ⟨σ,l,.refl _ _,.refl _ _ _ _⟩
 | trunc h id i off q hi k kq c hk hf hc hq hn hqf hne ih =>
  obtain ⟨σ1,g,f,e⟩:=ih
  obtain ⟨σ2,d,b,a⟩:=Km g hk hf hc hq hn hqf hne
  exact ⟨σ2,d,f.trans b,e.trans a⟩
 | step h id i off ty sz k c hk hf hc hn ih =>
  obtain ⟨σ1,g,f,e⟩:=ih
  obtain ⟨σ2,d,b,a⟩:=Mx (ty:=ty) (sz:=sz) g hk hf hc hn
  exact ⟨σ2,d,f.trans b,e.trans a⟩
theorem St.keeps {H H':AHeap}{σ σ':Nat->Option Ow}{w:World}{e:dM}{a:Act}(hS:St n M0 H σ w e a)(hR:Rel M0 H' σ' w)(hk:Keeps (dB M0 H σ) σ H.al w (dB M0 H' σ') σ' H'.al w):St n M0 H' σ' w e a :=
 ⟨hR,λt=>(hS.env t).keep hk,hS.defers,hS.size⟩
theorem n6 (hm:P.follows .mixedOrders=true):∀ (x:Code) (Q:Exit->dM->AHeap->Prop) (e:dM) (H:AHeap),oA P c x Q e H->oW c n x=true ->
  ∀ (σ:Nat->Option Ow) (w:World) (a:Act),St n M0 H σ w e a->x.wp P (PN n M0 H σ w Q) a w
 | .skip,Q,e,H,h,_,σ,w,a,hS=>wp_skip ⟨e,H,σ,h,hS,.refl _ _,.refl _ _ _ _⟩
 | .region id ops dr,Q,e,H,h,hok,σ,w,a,hS=>by
  simp only [oW,aR,cO,c4,c9] at hok
  unfold oA at h
  cases dr with
  | false =>
   simp only [eX,if_false] at h
   exact wp_region_list (GZ ops.toList e H _ h hok.1 σ w a hS λa' w' hc=>hc)
  | true =>
   simp only [if_true] at h
   exact Ou hm (hok.2.resolve_left bV) hok.1 h hS λa' w' hc=>hc
 | .seq x y,Q,e,H,h,hok,σ,w,a,hS=>by
  simp only [oW,aR] at hok
  unfold oA at h
  refine wp_seq (iJ (n6 hm x _ e H h hok.1 σ w a hS) λex a' w' hc=>?_)
  cases ex<;>first|exact hc|skip
  obtain ⟨e',H',σ',hq,hS',hst,hk⟩:=hc
  exact iJ (n6 hm y Q e' H' hq hok.2 σ' w' a' hS') λex a'' w'' hc'=>Came.trans hst hk hc'
 | .cond x y z,Q,e,H,h,hok,σ,w,a,hS=>by
  simp only [oW,aR] at hok
  unfold oA at h
  have hx:=hS.envR.ev x
  cases hv:e8 e x<;>simp only [hv] at h<;>try (exact h.elim)
  rename_i t
  rw [hv] at hx
  have hc:a.eval x=.bool t:=by generalize a.eval x=v at hx;cases hx;rfl
  exact wp_cond_split hc (λht=>n6 hm y Q e H (h.1 ht) hok.1 σ w a hS) λht=>n6 hm z Q e H (h.2 ht) hok.2 σ w a hS
 | .block id b,Q,e,H,h,hok,σ,w,a,hS=>by
  unfold oA at h
  refine wp_block (iJ (n6 hm b _ e H h hok σ w a hS) λex a' w' hc=>?_)
  cases ex<;>first|exact hc|skip
  rename_i id'
  by_cases hid:id'=id
  .subst hid
   show (if id'=id' then PN n M0 H σ w Q .normal a' w' else _)
   rw [if_pos rfl]
   exact Came.mono hc λe' H' h=>by
    have h':(if id'=id' then Q .normal e' H' else Q (.exit id') e' H'):=h
    rw [if_pos rfl] at h';exact h'
  .show (if id'=id then PN n M0 H σ w Q .normal a' w' else PN n M0 H σ w Q (.exit id') a' w')
   rw [if_neg hid]
   exact Came.mono hc λe' H' h=>by
    have h':(if id'=id then Q .normal e' H' else Q (.exit id') e' H'):=h
    rw [if_neg hid] at h';exact h'
 | .loop b,Q,e,H,h,hok,σ,w,a,hS=>by
  unfold oA at h
  obtain ⟨I,⟨H1,hgh,k0,h0⟩,hI⟩:=h
  obtain ⟨σ1,g1,g2,g3⟩:=vW hgh hS.rel
  have hS1:=hS.keeps g1 g3
  let J:Nat->Act->World->Prop:=λk a' w'=>Came n M0 H σ w (I k) a' w'
  have hJ0:J k0 a w:=⟨e,H1,σ1,h0,hS1,g2,g3⟩
  classical
  let μ:Act->World->Nat:=λa' w'=>if hx:∃ k,J k a' w' then Classical.choose (gA hx) else 0
  refine wp_loop (λa' w'=>∃ k,J k a' w') μ ⟨k0,hJ0⟩ λa' w' hx=>?_
  have hμ:μ a' w'=Classical.choose (gA hx):=by simp only [μ,dif_pos hx]
  obtain ⟨e',H',σ',hi,hS',hst,hk⟩:=(w5 (gA hx)).1
  refine iJ (n6 hm b _ e' H' (hI _ e' H' hi) hok σ' w' a' hS') λex a'' w'' hc=>?_
  have hc':=Came.trans hst hk hc
  cases ex<;>first|exact hc'|skip
  obtain ⟨e2,H20,σ20,⟨H2,hgh2,k',hlt,hk'⟩,hS2,hst2,hk2⟩:=hc'
  obtain ⟨σ2,j1,j2,j3⟩:=vW hgh2 hS2.rel
  have rest:=And.intro (hS2.keeps j1 j3) (And.intro (hst2.trans j2) (hk2.trans j3))
  have hx2:∃ k,J k a'' w'':=⟨k',e2,H2,σ2,hk',rest⟩
  refine ⟨hx2,?_⟩
  have:μ a'' w''=Classical.choose (gA hx2):=by simp only [μ,dif_pos hx2]
  rw [this,hμ]
  refine Nat.lt_of_le_of_lt ?_ hlt
  rcases bZ k' (Classical.choose (gA hx2)) with hlt'|hge
  .exact absurd ⟨e2,H2,σ2,hk',rest⟩ ((w5 (gA hx2)).2 k' hlt')
  .exact hge
 | .exit id,Q,e,H,h,_,σ,w,a,hS=>wp_exit ⟨e,H,σ,h,hS,.refl _ _,.refl _ _ _ _⟩
 | .ret,Q,e,H,h,_,σ,w,a,hS=>wp_ret ⟨e,H,σ,h,hS,.refl _ _,.refl _ _ _ _⟩
 | .rangeFunc ..,Q,e,H,h,_,_,_,_,_=>h.elim
 | .scope ..,Q,e,H,h,_,_,_,_,_=>h.elim
 | .label ..,Q,e,H,h,_,_,_,_,_=>h.elim
 | .goto ..,Q,e,H,h,_,_,_,_,_=>h.elim
 | .refuse ..,Q,e,H,h,_,_,_,_,_=>h.elim
end
end Go.Abs
end
section
namespace Go.Abs
def Cg (P:Program):List ResultVar->dM->AHeap->(List D->Prop)->Prop
 | [],_,_,K=>K []
 | .tmp t :: r,e,H,K=>Cg P r e H λl=>K (e t :: l)
 | .cell a ty :: r,e,H,K=>(nG P ty (e a) H).cond/\Cg P r e H λl=>K ((nG P ty (e a) H).val :: l)
def EU:List D->D
 | [d]=>d
 | l=>.tup l
def P4 (P:Program)(rs:List ResultVar)(Q:D->AHeap->Prop):Exit->dM->AHeap->Prop
 | .normal,e,H=>Cg P rs e H λl=>Q (EU l) H
 | .ret,e,H=>Cg P rs e H λl=>Q (EU l) H
 | _,_,_=>False
def zO (args:List D):dM:=λt=>args.getD t .junk
def CD (tmps:Array Value):ResultVar->Sem Value
 | .tmp t=>Pure.pure (tmps.getD t undef)
 | .cell x t=>do loadVar t (<- asAddr (tmps.getD x undef))
section
variable {P:Program} {M0:Nat→Prop} {H:AHeap} {σ:Nat→Option Ow} {w:World} {n:Nat} {e:dM} {a:Act}
theorem wA (hS:St n M0 H σ w e a):∀ (rs:List ResultVar) (K:List D->Prop),Cg P rs e H K ->
  ∃ vs l,Sem.run P (rs.mapM (CD a.tmps)) w=Result.ok vs w/\RepL (dB M0 H σ) σ H.al w vs l/\K l
 | [],K,h=>⟨[],[],by simp,⟨rfl,λj u d hu=>by simp at hu⟩,h⟩
 | .tmp t :: rs,K,h=>by
  obtain ⟨vs,l,h1,h2,h3⟩:=wA hS rs _ h
  refine ⟨a.tmps.getD t undef :: vs,e t :: l,by simp [List.mapM_cons,CD,h1],⟨by simp [h2.len],λj u d hu hd=>?_⟩,h3⟩
  cases j with
  | zero=>simp only [lA,bD] at hu hd;subst hu;subst hd;exact hS.env t
  | succ j=>exact h2.rep j u d (bW hu) (bW hd)
 | .cell x t :: rs,K,h=>by
  obtain ⟨vs,l,h1,h2,h3⟩:=wA hS rs _ h.2
  obtain ⟨_,_,v,hr,hv⟩:=Mi (P:=P) hS.rel (hS.env x) h.1
  have hld:Sem.run P (CD a.tmps (.cell x t)) w=.ok v w:=by
   simp only [CD]
   unfold Instr.loadAt at hr
   generalize a.tmps.getD x undef=q at hr ⊢
   cases q with
   | pointer p=>cases p with
    | some ad=>simpa [Instr.sureAddr,asAddr] using hr
    | none=>simp [Instr.sureAddr,stuck] at hr
   | _=>simp [Instr.sureAddr,stuck] at hr
  refine ⟨v :: vs,_ :: l,by simp [List.mapM_cons,hld,h1],⟨by simp [h2.len],λj u d hu hd=>?_⟩,h3⟩
  cases j with
  | zero=>simp only [lA,bD] at hu hd;subst hu;subst hd;exact hv
  | succ j=>exact h2.rep j u d (bW hu) (bW hd)
theorem Dp {fn:Func}{vs:List Value}{l:List D}(h:Sem.run P (fn.results.toList.mapM (CD a.tmps)) w=.ok vs w)(b:RepL (dB M0 H σ) σ H.al w vs l) :
  ∃ v,(results fn a.tmps).run P w=.ok v w/\RepV (dB M0 H σ) σ H.al w v (EU l):=by
 have c:results fn a.tmps=(do let vs <- fn.results.mapM (CD a.tmps);Pure.pure (if h:vs.size=1 then vs[0] else .tuple vs)):=rfl
 rw [c,Array.mapM_eq_mapM_toList]
 refine ⟨if h:vs.toArray.size=1 then vs.toArray[0] else .tuple vs.toArray,by simp [h],?_⟩
 by_cases f:vs.length=1
 .match vs,f,b with
  | [v],_,b =>
   match l,b with
   | [d],b=>simpa [EU] using b.rep 0 v d rfl rfl
   | [],b=>have:=b.len;simp at this
   | _ :: _ :: _,b=>have:=b.len;simp at this
 .have e:¬ vs.toArray.size=1:=by simpa using f
  rw [dif_neg e]
  have g:EU l=.tup l:=by
   match l,b with
   | [],_=>rfl
   | [d],b=>have:=b.len;simp at this;exact absurd this f
   | _ :: _ :: _,_=>rfl
  rw [g]
  exact .tup vs l b.len b.rep
theorem aI {f:FuncId}{fn:Func}{x:Code}{cfg:Cfg}{args:List D}{Q:D->AHeap->Prop}(u:P.follows .mixedOrders=true)(r:P.funcs[f]?=some fn)(s:fn.body=some x)
  (j:(fn.name=="runtime.NumGoroutine")=false) (q:args.length<=fn.ntmps) (i:oW cfg fn.ntmps x=true)
  (h:oA P cfg x (P4 P fn.results.toList Q) (zO args) H):ACalls P f args H Q:=by
 refine ⟨⟨fn,r,j,by simp [s]⟩,λM0 σ w vals A ha=>calls_of_wp r s ?_⟩
 have z:St fn.ntmps M0 H σ w (zO args) { tmps:=vals.toArray++Array.replicate (fn.ntmps - vals.toArray.size) undef,defers:=[] }:=by
  refine ⟨A,λt=>?_,rfl,by simp [ha.len];omega⟩
  simp only [zO]
  by_cases p:t<vals.length
  .have m:vals[t]?=some vals[t]:=aA p
   have k:args[t]?=some (args[t]'(by rw [<- ha.len];exact p)):=aA _
   have:=ha.rep t _ _ m k
   simp only [Option.getD_some,i5]
   grind
  .rw [List.getD_eq_getElem?_getD,b5 (by rw [<- ha.len];omega)]
   exact .junk _
 refine iJ (n6 u x _ _ H h i σ w _ z) λex a' w' hc=>?_
 obtain ⟨C,o,σ',b,a,g,y⟩:=hc
 have n:Cg P fn.results.toList C o (λl=>Q (EU l) o)->a'.defers=[]/\∃ v,(results fn a'.tmps).run P w'=.ok v w' /\
   ∃ v2 d H2 σ2,Ending.returned v=.returned v2/\Rel M0 H2 σ2 w'/\RepV (dB M0 H2 σ2) σ2 H2.al w' v2 d/\Stp σ w σ2 w'/\Keeps (dB M0 H σ) σ H.al w (dB M0 H2 σ2) σ2 H2.al w'/\Q d H2:=by
  intro b
  obtain ⟨E,l,m,k,B⟩:=wA a _ _ b
  obtain ⟨v,e,c⟩:=Dp (fn:=fn) m k
  exact ⟨a.defers,v,e,v,_,o,σ',rfl,a.rel,c,g,y,B⟩
 cases ex<;>first|exact n b|exact b.elim
end
/-! ### pure contracts -/
theorem Ck {l:List D}(h:∀ d∈l,d.cl=true):D.clL l=true:=by
 induction l with
 | nil=>rfl
 | cons a l ih=>simp [D.clL,h a bV,ih λd hd=>h d (by simp [hd])]
def iS:Nat->Option Ow:=λ_=>none
def rU:Nat->Prop:=λ_=>False
def Pure (P:Program)(f:FuncId)(args:List D)(r:D):Prop :=
 T2 P f/\∀ (M:Nat->Prop) (w:World) (vals:List Value),(∀ b,M b->b<w.heap.size)->RepL M iS rU w vals args ->
  Calls P f vals.toArray w λe w'=>∃ v,e=.returned v/\RepV M iS rU w' v r/\RowKit.Below w.heap.size w w'
def Own (P:Program)(f:FuncId)(args:List D)(ty:TypeId)(sz:Nat)(es:List (List D)):Prop :=
 T2 P f/\∀ (M:Nat->Prop) (w:World) (vals:List Value),(∀ b,M b->b<w.heap.size)->RepL M iS rU w vals args ->
  Calls P f vals.toArray w λe w'=>∃ v xs,e=.returned v/\w'.ownsRow w.heap.size ty sz v es.length xs/\(∀ u∈xs,u.oneCell'=true)/\RepL (λb=>M b\/v.ownBlock=some b) iS rU w' xs es.flatten/\D.clLL es=true/\(∀ c∈es,c.length=sz) /\
   RowKit.Below w.heap.size w w'
def p9 (H:AHeap):D->D
 | .tup vs=>.tup (vs.map (iN H))
 | d=>iN H d
def CJ:D->List Nat
 | .tup vs=>vs.flatMap dU
 | d=>dU d
section
variable {P:Program} {M0:Nat→Prop} {H:AHeap} {σ:Nat→Option Ow} {w:World}
theorem sR {v:Value}{d:D}(g:Rel M0 H σ w)(b:RepV (dB M0 H σ) σ H.al w v d)(a:List Nat)(f:∀ i∈CJ d,i∈a) :
  RepV (dB M0 (fK a H) σ) σ (fK a H).al w v (p9 H d):=by
 cases d with
 | tup vs =>
  cases b
  rename_i h l k
  refine .tup h _ (bW l) λj u x hu b=>?_
  rw [aN,bQ] at b
  obtain ⟨y,e,rfl⟩:=b
  exact l9 g (k j u y hu e) a λi c=>f i (by simp only [CJ,bS];exact ⟨y,aK e,c⟩)
 | _=>exact l9 g b a f
theorem EC (M:Nat->Prop):dB M .emp iS=M:=by
 funext b
 exact propext ⟨λh=>h.elim (λh=>h) λ⟨_,_,_,h,_⟩=>by simp [AHeap.emp] at h,.inl⟩
theorem Ez (M:Nat->Prop)(w:World)(hM:∀ b,M b->b<w.heap.size):Rel M .emp iS w :=
 ⟨λ_ _=>⟨rfl,rfl⟩,λ_ h=>h.elim,λ_ _ h=>by simp [AHeap.emp] at h,λ_ _ _ _ _ h=>by simp [iS] at h,λ_ _ _ h=>by simp [iS] at h,hM⟩
theorem yX {σ':Nat->Option Ow}{w':World}(h:Stp iS w σ' w'):RowKit.Below w.heap.size w w' :=
 ⟨h.os,h.tape,h.output,h.size,λb hb=>h.old b hb λ_ _ h=>by simp [iS] at h⟩
theorem aS {f:FuncId}{args:List D}{r:D}(h:ACalls P f args .emp λd H'=>p9 H' d=r/\r.cl=true):Pure P f args r:=by
 refine ⟨h.1,λM w vals hM ha=>(h.2 M iS w vals (Ez M w hM) (by rw [EC];exact ha)).mono λe w' ⟨v,d,H',σ',k,m,g,a,n,j,b⟩=>⟨v,k,?_,yX a⟩⟩
 have c:=sR m g (CJ d) λi hi=>hi
 rw [j] at c
 exact c.closed (λad u hm l=>⟨λh=>hm (.inl h),l⟩) b
theorem Bw {f:FuncId}{args:List D}{ty:TypeId}{sz:Nat}{es:List (List D)}
  (h:ACalls P f args .emp λd H'=>∃ id k,d=.own id es.length/\H'.get id=some k/\k.es=es/\k.ty=ty/\k.sz=sz/\k.fz=false/\D.clLL es=true):Own P f args ty sz es:=by
 refine ⟨h.1,λM w vals hM ha=>(h.2 M iS w vals (Ez M w hM) (by rw [EC];exact ha)).mono λe w' ⟨v,d,H',σ',K,L,H,n,Q,id,k,q,i,r,N,B,y,p⟩=>?_⟩
 subst q;subst r;subst N;subst B
 obtain ⟨o,x,l⟩:=L.lies id k i
 obtain ⟨G,a,t,b⟩:=l.row
 cases H
 rename_i _ _ m
 rcases m o x with J|⟨_,rfl⟩
 .have:=l.ver;omega
 .refine ⟨o.val,G,K,?_,t,⟨b.len,λj u d hu q=>(b.rep j u d hu q).closed (λad u hm A=>⟨λh=>hm (h.elim .inl λh=>.inr ⟨id,k,o,i,y,x,h⟩),A⟩) ?_⟩,p,λc A=>(l.esz c A).trans l.sz,yX n⟩
  .rw [<- l.sz]
   refine ⟨a.1,?_⟩
   rcases a.2 with I|⟨g,E,C,r,_,B⟩
   .exact .inl I
   .refine .inr ⟨g,E,C,r,?_,B⟩
    rcases n.new id o g x (by simp [Ow.block,r,Value.ownBlock]) with h|⟨_,O,h,_⟩
    .exact h
    .simp [iS] at h
  .obtain ⟨c,z,s⟩:=jC.1 (aK q)
   exact jK (pV p c z) d s
theorem yC {M:Nat->Prop}{N:Nat->Prop}:Keeps M iS rU w M σ N w:=⟨λ_ _ h k=>⟨h,k⟩,λ_ _ h=>h.elim,λ_ h=>h.elim⟩
theorem gU {M M':Nat->Prop}{N N':Nat->Prop}{σ':Nat->Option Ow}(hM:∀ b,¬ M b->¬ M' b){vs:List Value}{ds:List D}(h:RepL M σ N w vs ds)(hc:D.clL ds=true):RepL M' σ' N' w vs ds :=
 ⟨h.len,λj u d hu hd=>(h.rep j u d hu hd).closed (λad u hm hc=>⟨hM _ hm,hc⟩) (jK hc d (aK hd))⟩
theorem tM (a:Rel M0 H σ w):∀ b,dB M0 H σ b->b<w.heap.size:=by
 rintro b (h|⟨i,k,o,_,_,c,d⟩)
 .exact a.m0 b h
 .exact (a.lt i o b c d).1
theorem rC {f:FuncId}{args:List D}{r:D}{Q:D->AHeap->Prop}(c:Pure P f args r)(b:D.clL args=true)(i:Q r H):ACalls P f args H Q:=by
 refine ⟨c.1,λM0 σ w vals hR ha=>(c.2 (dB M0 H σ) w vals (tM hR) (gU (λ_ h=>h) ha b)).mono λe w' ⟨v,g,d,a⟩=>?_⟩
 obtain ⟨l,k,j⟩:=hR.grow a.os a.tape a.output a.size a.block
 exact ⟨v,r,H,σ,g,l,d.keep yC,k,j,i⟩
theorem Bk {M0:Nat->Prop}(hR:Rel M0 H σ w){vals:List Value}{args:List D}(ha:RepL (dB M0 H σ) σ H.al w vals args)(ids:List Nat)(hi:∀ i∈args.flatMap dU,i∈ids) :
  RepL (dB M0 (fK ids H) σ) σ (fK ids H).al w vals (args.map (iN H)) :=
 ⟨by simpa using ha.len,λj u d hu hd=>by
  rw [aN,bQ] at hd
  obtain ⟨y,hy,rfl⟩:=hd
  exact l9 hR (ha.rep j u y hu hy) ids λi hii=>hi i (bS.2 ⟨y,aK hy,hii⟩)⟩
def D.flat1:D->Bool
 | .int .. | .bool _ | .str _ | .nil | .nilp | .nilf=>true
 | _=>false
def D.flat:D->Bool
 | .tup vs=>vs.all D.flat1
 | d=>d.flat1
theorem IR {M c:Nat->Prop}{N b:Nat->Prop}{σ σ':Nat->Option Ow}{w w':World}{v:Value}{d:D}(h:RepV M σ N w v d)(a:d.flat1=true):RepV c σ' b w' v d:=by
 cases h<;>first|(simp [D.flat1] at a;done)|constructor
theorem yK {M g:Nat->Prop}{N f:Nat->Prop}{σ σ':Nat->Option Ow}{w w':World}{v:Value}{d:D}(h:RepV M σ N w v d)(a:d.flat=true):RepV g σ' f w' v d:=by
 cases d with
 | tup vs =>
  cases h
  rename_i b e c
  simp only [D.flat,cO] at a
  exact .tup b vs e λj u x hu hx=>IR (c j u x hu hx) (a x (aK hx))
 | _=>exact IR h a
theorem wC {f:FuncId}{args:List D}{r:D}{Q:D->AHeap->Prop}(c:Pure P f (args.map (iN H)) r)(b:D.clL (args.map (iN H))=true)(g:r.flat=true)(k:Q r H):ACalls P f args H Q:=by
 refine ⟨c.1,λM0 σ w vals hR ha=>?_⟩
 obtain ⟨o,s,q,p⟩:=fY (args.flatMap dU) hR
 refine (c.2 (dB M0 (fK (args.flatMap dU) H) σ) w vals (tM o) (gU (λ_ h=>h) (Bk hR ha _ λi h=>h) b)).mono λe w' ⟨v,j,d,a⟩=>?_
 obtain ⟨n,m,l⟩:=hR.grow a.os a.tape a.output a.size a.block
 exact ⟨v,r,H,σ,j,n,yK d g,m,l,k⟩
theorem KL {f:FuncId}{args:List D}{r:D}{Q:D->AHeap->Prop}(c:Pure P f (args.map (iN H)) r)(b:D.clL (args.map (iN H))=true)(k:Q r (fK (args.flatMap dU) H)):ACalls P f args H Q:=by
 refine ⟨c.1,λM0 σ w vals hR ha=>?_⟩
 obtain ⟨d,o,q,p⟩:=fY (args.flatMap dU) hR
 refine (c.2 (dB M0 (fK (args.flatMap dU) H) σ) w vals (tM d) (gU (λ_ h=>h) (Bk hR ha _ λi h=>h) b)).mono λe w' ⟨v,j,g,a⟩=>?_
 obtain ⟨n,m,l⟩:=d.grow a.os a.tape a.output a.size a.block
 exact ⟨v,r,_,σ,j,n,g.keep yC,m,o.trans l,k⟩
theorem D3 {f:FuncId}{args:List D}{ty:TypeId}{sz:Nat}{es:List (List D)}{Q:D->AHeap->Prop}(S:Own P f args ty sz es)(L:D.clL args=true)
  (hQ:Q (.own H.next es.length) (H.push H.next ⟨ty,sz,es,false⟩)):ACalls P f args H Q:=by
 refine ⟨S.1,λM0 σ w vals hR ha=>(S.2 (dB M0 H σ) w vals (tM hR) (gU (λ_ h=>h) ha L)).mono λe w' ⟨v,O,he,k,N,y,A,I,C⟩=>?_⟩
 have p:w'.ownsRow 0 ty sz v es.length O:=⟨k.1,k.2.imp (λx=>x) λ⟨g,s,r,a,b,c⟩=>⟨g,s,r,a,dY _,c⟩⟩
 have M:∀ b,v.ownBlock=some b->w.heap.size<=b:=λb j=>by
  rcases k.2 with E|⟨g,s,r,N,h2,h3⟩
  .rw [E.1] at j;simp [Value.ownBlock] at j
  .rw [N] at j;simp only [Value.ownBlock,bD] at j;omega
 have hG:∀ F,¬ (dB M0 H σ F\/v.ownBlock=some F)->¬ dB M0 (H.push H.next ⟨ty,sz,es,false⟩) (λi=>if i=H.next then some ⟨es.length,v,sz,ty⟩ else σ i) F:=by
  intro F J h
  rcases h with h|⟨i,Y,X,z,Z,m,j⟩
  .exact J (.inl (.inl h))
  .by_cases q:i=H.next
   .simp only [q,if_true,bD] at m
    subst m
    exact J (.inr j)
   .simp only [q,if_false] at m
    simp only [AHeap.push,q,if_false] at z
    exact J (.inl (.inr ⟨i,Y,X,z,Z,m,j⟩))
 have B:D.clL es.flatten=true:=Ck λd hd=>by
  obtain ⟨c,K,G⟩:=jC.1 hd
  exact jK (pV A c K) d G
 obtain ⟨W,V,U⟩:=Rel.pushG hR H.next (λh=>n7 _ (hR.nxt _ h)) (w':=w') C.os C.tape C.output C.size C.block ⟨ty,sz,es,false⟩ ⟨es.length,v,sz,ty⟩
  M rfl rfl rfl I O p N (λhk=>gU hG y B)
 exact ⟨v,_,_,_,he,W,.own v _ _ (.inl rfl) (by rcases k.2 with ⟨E,_⟩|⟨g,s,r,E,_⟩<;>simp [E,Value.oneCell']) (λo ho=>by simp at ho;subst ho;exact .inr ⟨rfl,rfl⟩),V,U,hQ⟩
end
end Go.Abs
end
section
namespace Go.Abs
inductive SOut where
 | op (o:AOut)
 | call (f:FuncId) (args:List D)
 | gop (t:Bool) (g:Bool) (o:AOut)
 | gcall (t:Bool) (g:Bool) (f:FuncId) (args:List D)
 | bad
def JA (c:Option (FuncId × List D))(o:AOut):SOut :=
 match c with
 | some (f,args)=>.call f args
 | none=>.op o
def Hg (gc:Option (Bool × Bool))(b:Bool)(g:Bool)(c:Option (FuncId × List D))(o:AOut):SOut :=
 match gc with
 | some (t,c')=>match c with
  | some (f,args)=>.gcall (t&&(c'==b)) g f args
  | none=>.gop (t&&(c'==b)) g o
 | none=>.bad
def mM (P:Program)(md:Nat->Bool)(nid:Nat)(ops:Array Oper)(e:dM)(o:Oper)(H:AHeap):SOut :=
 match o.guard with
 | none=>JA (gQ e o) (Es P nid md e o H)
 | some (j,b)=>Hg (gD ops e j) b (Q5 e (gO o.op)) (gQ (gE e o.op) o) (Es P nid md (gE e o.op) o H)
def fM (P:Program)(md:Nat->Bool)(ops:Array Oper)(rest:List Oper)(e:dM)(dst:Option Tmp)(K:dM->AHeap->Prop)(f:FuncId)(args:List D)(H:AHeap):Prop :=
 ACalls P f args H λv H1=>mS P md ops rest (oD e dst v) H1 K
def yI (P:Program)(md:Nat->Bool)(ops:Array Oper)(rest:List Oper)(e:dM)(dst:Option Tmp)(K:dM->AHeap->Prop)(t:Bool)(f:FuncId)(args:List D)(H:AHeap):Prop :=
 (∃ r S,(t=true->∀ H',f8 S H' H->ACalls P f args H' λv H1=>v=r/\H1=H')/\mS P md ops rest (oD e dst (.opt t r)) H K) \/
  ((t=true->ACalls P f args H λv H1=>mS P md ops rest (oD e dst (.opt true v)) H1 K)/\(t=false->∃ r,mS P md ops rest (oD e dst (.opt false r)) H K))
def yO (P:Program)(md:Nat->Bool)(ops:Array Oper)(rest:List Oper)(e:dM)(dst:Option Tmp)(H:AHeap)(K:dM->AHeap->Prop):SOut->Prop
 | .op o=>o.cond/\(o.fact->mS P md ops rest (oD e dst o.val) o.heap K)
 | .call f args=>fM P md ops rest e dst K f args H
 | .gop t g o=>(t=true->g=true)/\(t=true->o.cond/\o.heap=H)/\((t=true->o.fact)->mS P md ops rest (oD e dst (.opt t o.val)) H K)
 | .gcall t g f args=>(t=true->g=true)/\yI P md ops rest e dst K t f args H
 | .bad=>False
theorem Q3 (P:Program)(md:Nat->Bool)(ops:Array Oper)(o:Oper)(i:List Oper)(e:dM)(H:AHeap)(K:dM->AHeap->Prop) :
  mS P md ops (o :: i) e H K=yO P md ops i e o.dst H K (mM P md H.next ops e o H):=by
 obtain ⟨dst,op,type,pos,after,guard⟩:=o
 cases guard with
 | none =>
  simp only [mS,o6,mM]
  cases m:gQ e { dst:=dst,op:=op,type:=type,pos:=pos,after:=after,guard:=none } with
  | none=>simp [JA,yO]
  | some p=>simp [JA,yO,fM]
 | some p =>
  obtain ⟨j,b⟩:=p
  simp only [mS,o6,mM]
  cases n:gD ops e j with
  | none=>simp [Hg,yO]
  | some gc =>
   obtain ⟨t,q⟩:=gc
   cases m:gQ (gE e op) { dst:=dst,op:=op,type:=type,pos:=pos,after:=after,guard:=some (j,b) } with
   | none=>simp [Hg,yO]
   | some p=>simp [Hg,yO,yI]
@[go_sem] theorem V3 (P:Program)(md:Nat->Bool)(ops:Array Oper)(e:dM)(H:AHeap)(K:dM->AHeap->Prop):mS P md ops [] e H K=K e H:=rfl
@[go_sem] theorem XE (P:Program)(md:Nat->Bool)(ops:Array Oper)(rest:List Oper)(e:dM)(dst:Option Tmp)(H H':AHeap)(K:dM->AHeap->Prop)(c f:Prop)(v:D) :
 yO P md ops rest e dst H K (.op ⟨c,f,v,H'⟩)=(c/\(f->mS P md ops rest (oD e dst v) H' K)):=rfl
@[go_sem] theorem U3 (P:Program)(md:Nat->Bool)(ops:Array Oper)(rest:List Oper)(e:dM)(dst:Option Tmp)(H:AHeap)(K:dM->AHeap->Prop)(f:FuncId)(args:List D) :
 yO P md ops rest e dst H K (.call f args)=fM P md ops rest e dst K f args H:=rfl
@[go_sem] theorem VY (P:Program)(md:Nat->Bool)(ops:Array Oper)(rest:List Oper)(e:dM)(dst:Option Tmp)(H H':AHeap)(K:dM->AHeap->Prop)(c f:Prop)(v:D)(t g:Bool) :
 yO P md ops rest e dst H K (.gop t g ⟨c,f,v,H'⟩)=((t=true->g=true)/\(t=true->c/\H'=H)/\((t=true->f)->mS P md ops rest (oD e dst (.opt t v)) H K)):=rfl
@[go_sem] theorem TT (P:Program)(md:Nat->Bool)(ops:Array Oper)(rest:List Oper)(e:dM)(dst:Option Tmp)(H:AHeap)(K:dM->AHeap->Prop)(f:FuncId)(args:List D)(t g:Bool) :
 yO P md ops rest e dst H K (.gcall t g f args)=((t=true->g=true)/\yI P md ops rest e dst K t f args H):=rfl
@[go_sem] theorem Vp (f:FuncId)(args:List D)(o:AOut):JA (some (f,args)) o=.call f args:=rfl
@[go_sem] theorem Vq (o:AOut):JA none o=.op o:=rfl
@[go_sem] theorem V8 (e:dM)(d t:Nat)(v:D):oD e (some d) v t=if t=d then v else e t:=rfl
@[go_sem] theorem V9 (e:dM)(v:D):oD e none v=e:=rfl
def Th:List (Nat × D)->dM
 | []=>λ_=>.junk
 | (t,d) :: l=>λt'=>if t'=t then d else Th l t'
@[go_sem] theorem XC (t:Nat):Th [] t=.junk:=rfl
@[go_sem] theorem VV (t:Nat)(d:D)(l:List (Nat × D))(t':Nat):Th ((t,d) :: l) t'=if t'=t then d else Th l t':=rfl
@[go_sem] theorem XB (t:Nat):zO [] t=.junk:=by simp [zO]
@[go_sem] theorem VT (d:D)(l:List D):zO (d :: l) 0=d:=rfl
@[go_sem] theorem VU (d:D)(l:List D)(t:Nat):zO (d :: l) (t+1)=zO l t:=by simp [zO]
@[go_sem] theorem YO (e:dM)(t:Nat):e8 e (.tmp t)=e t:=rfl
@[go_sem] theorem Xz (e:dM)(f:FuncId):e8 e (.func f)=.fn f []:=rfl
@[go_sem] theorem YR (e:dM)(k:IntKind)(n:Int):e8 e (.const (.int k n))=.int k n:=rfl
@[go_sem] theorem XA (e:dM)(b:Bool):e8 e (.const (.bool b))=.bool b:=rfl
@[go_sem] theorem YP (e:dM)(b:ByteArray):e8 e (.const (.string b))=.str b:=rfl
@[go_sem] theorem YQ (e:dM):e8 e (.const (.slice none 0 0))=.nil:=rfl
@[go_sem] theorem Xx (e:dM):e8 e (.const (.pointer none))=.nilp:=rfl
@[go_sem] theorem Xy (e:dM):e8 e (.const .nilFunc)=.nilf:=rfl
@[go_sem] theorem UB:jB (.const (.slice none 0 0))=true:=rfl
@[go_sem] theorem Uz (t:Nat):jB (.tmp t)=false:=rfl
@[go_sem] theorem UC (k:IntKind)(n:Int):jB (.const (.int k n))=false:=rfl
@[go_sem] theorem TM (b:Bool):jB (.const (.bool b))=false:=rfl
@[go_sem] theorem UA (b:ByteArray):jB (.const (.string b))=false:=rfl
@[go_sem] theorem TI:jB (.const (.pointer none))=false:=rfl
@[go_sem] theorem TJ:jB (.const .nilFunc)=false:=rfl
@[go_sem] theorem TL (f:FuncId):jB (.func f)=false:=rfl
@[go_sem] theorem Xb (md:Nat->Bool)(t:Nat):CN md (some t)=md t:=rfl
@[go_sem] theorem Xc (md:Nat->Bool):CN md none=false:=rfl
section
variable (P:Program) (md:Nat→Bool) (nid:Nat) (ops:Array Oper) (e:dM) (d:Option Tmp) (ty:TypeId) (p:String) (af:Array Edge) (H:AHeap)
@[go_sem] theorem ZD (x:Operand):mM P md nid ops e ⟨d,.move x,ty,p,af,none⟩ H=.op (if jB x then Db P nid (CN md d) ty H else ⟨True,True,e8 e x,H⟩):=rfl
@[go_sem] theorem Wf (x:Operand):mM P md nid ops e ⟨d,.assign x,ty,p,af,none⟩ H=.op (if jB x then Db P nid (CN md d) ty H else ⟨True,True,e8 e x,H⟩):=rfl
@[go_sem] theorem ZC (c a b:Operand):mM P md nid ops e ⟨d,.pick c a b,ty,p,af,none⟩ H=.op (yU (e8 e c) (e8 e a) (e8 e b) H):=rfl
@[go_sem] theorem Ya (t:TypeId):mM P md nid ops e ⟨d,.alloc t,ty,p,af,none⟩ H=.op (wB P nid (CN md d) t H):=rfl
@[go_sem] theorem aaZ (t:TypeId)(x:Operand):mM P md nid ops e ⟨d,.box t x,ty,p,af,none⟩ H=.op (KF P nid (CN md d) t (e8 e x) H):=rfl
@[go_sem] theorem X8 (t:TypeId)(ps:Array (Nat × Operand)):mM P md nid ops e ⟨d,.build t ps,ty,p,af,none⟩ H=.op (sF P t (ps.toList.map λp=>(p.1,e8 e p.2)) H):=rfl
@[go_sem] theorem YU (md:Nat->Bool)(H:AHeap)(d:D):PH md H d=if md 1000001 then d else iN H d:=rfl
@[go_sem] theorem YT (md:Nat->Bool)(d:D):Kt md d=if md 1000001 then [] else dU d:=rfl
@[go_sem] theorem SO (t:TypeId)(n:Nat)(b:Array (Nat × Operand)):mM P md nid ops e ⟨d,.buildSlice t n b,ty,p,af,none⟩ H =
  .op (if md 1000001 then iQ P nid (CN md d) t n (b.toList.map λp=>(p.1,e8 e p.2)) H else iQ P nid (CN md d) t n (b.toList.map λp=>(p.1,iN H (e8 e p.2))) (fK (b.toList.flatMap λp=>dU (e8 e p.2)) H)):=by
 show SOut.op (iQ P nid (CN md d) t n (b.toList.map λp=>(p.1,PH md H (e8 e p.2))) (fK (b.toList.flatMap λp=>Kt md (e8 e p.2)) H))=_
 cases h:md 1000001
 .simp [PH,Kt,h]
 .simp only [PH,Kt,h,if_true]
  rw [show (b.toList.flatMap λ_=>([]:List Nat))=[] by induction b.toList with|nil=>rfl|cons a l ih=>simp];rfl
@[go_sem] theorem ZE (t:TypeId)(x:Operand):mM P md nid ops e ⟨d,.load t x,ty,p,af,none⟩ H=.op (nG P t (e8 e x) H):=rfl
@[go_sem] theorem X4 (t:TypeId)(x y:Operand):mM P md nid ops e ⟨d,.store t x y,ty,p,af,none⟩ H =
 .op (if md 1000000 then lY P t (e8 e x) (iN H (e8 e y)) (fK (dU (e8 e y)) H) else lY P t (e8 e x) (e8 e y) H):=rfl
@[go_sem] theorem Uc (x:Operand):mM P md nid ops e ⟨d,.nilCheck x,ty,p,af,none⟩ H=.op (jI (e8 e x) H):=rfl
@[go_sem] theorem X9 (b:BinOp)(t t':TypeId)(x y:Operand):mM P md nid ops e ⟨d,.binOp b t x y t',ty,p,af,none⟩ H=.op (rB (md 2000000) P t b (e8 e x) (e8 e y) H):=rfl
@[go_sem] theorem XZ (w:Bool)(P:Program)(t:TypeId)(x y:D)(H:AHeap):rB w P t .add x y H=G0 P t .add x y H:=by cases w<;>rfl
@[go_sem] theorem XS (w:Bool)(P:Program)(t:TypeId)(x y:D)(H:AHeap):rB w P t .mul x y H=G0 P t .mul x y H:=by cases w<;>rfl
@[go_sem] theorem XP (w:Bool)(P:Program)(t:TypeId)(x y:D)(H:AHeap):rB w P t .quo x y H=G0 P t .quo x y H:=by cases w<;>rfl
@[go_sem] theorem XO (w:Bool)(P:Program)(t:TypeId)(x y:D)(H:AHeap):rB w P t .rem x y H=G0 P t .rem x y H:=by cases w<;>rfl
@[go_sem] theorem XX (w:Bool)(P:Program)(t:TypeId)(x y:D)(H:AHeap):rB w P t .eql x y H=G0 P t .eql x y H:=by cases w<;>rfl
@[go_sem] theorem XR (w:Bool)(P:Program)(t:TypeId)(x y:D)(H:AHeap):rB w P t .neq x y H=G0 P t .neq x y H:=by cases w<;>rfl
@[go_sem] theorem XT (w:Bool)(P:Program)(t:TypeId)(x y:D)(H:AHeap):rB w P t .lss x y H=G0 P t .lss x y H:=by cases w<;>rfl
@[go_sem] theorem XU (w:Bool)(P:Program)(t:TypeId)(x y:D)(H:AHeap):rB w P t .leq x y H=G0 P t .leq x y H:=by cases w<;>rfl
@[go_sem] theorem XV (w:Bool)(P:Program)(t:TypeId)(x y:D)(H:AHeap):rB w P t .gtr x y H=G0 P t .gtr x y H:=by cases w<;>rfl
@[go_sem] theorem XW (w:Bool)(P:Program)(t:TypeId)(x y:D)(H:AHeap):rB w P t .geq x y H=G0 P t .geq x y H:=by cases w<;>rfl
@[go_sem] theorem XY (w:Bool)(P:Program)(t:TypeId)(x y:D)(H:AHeap):rB w P t .and x y H=G0 P t .and x y H:=by cases w<;>rfl
@[go_sem] theorem XN (w:Bool)(P:Program)(t:TypeId)(x y:D)(H:AHeap):rB w P t .shr x y H=G0 P t .shr x y H:=by cases w<;>rfl
@[go_sem] theorem XQ (P:Program)(t:TypeId)(a:BinOp)(x y:D)(H:AHeap):rB false P t a x y H=G0 P t a x y H:=by cases a<;>cases x<;>cases y<;>rfl
@[go_sem] theorem XM (P:Program)(t:TypeId)(k k':IntKind)(a b:Int)(H:AHeap):rB true P t .sub (.int k a) (.int k' b) H=⟨k=k',True,.int k (k.wrap (a - b)),H⟩:=rfl
@[go_sem] theorem ZB (u:UnOp)(t:TypeId)(x:Operand):mM P md nid ops e ⟨d,.unOp u t x,ty,p,af,none⟩ H=.op (So u (e8 e x) H):=rfl
@[go_sem] theorem Vs (s t:TypeId)(x:Operand):mM P md nid ops e ⟨d,.convert s t x,ty,p,af,none⟩ H=.op (mJ P s t (e8 e x) H):=rfl
@[go_sem] theorem Ud (f:FuncId)(caps:Array Operand):mM P md nid ops e ⟨d,.makeFunc (.func f) #[] caps,ty,p,af,none⟩ H=.op ⟨True,True,.fn f (caps.toList.map (e8 e)),H⟩:=rfl
@[go_sem] theorem Tw (t:TypeId)(l c:Operand):mM P md nid ops e ⟨d,.makeSlice t l c,ty,p,af,none⟩ H=.op (Ci P nid t (e8 e l) (e8 e c) H):=rfl
@[go_sem] theorem X5 (t:TypeId)(x:Operand)(lo hi:Option Operand):mM P md nid ops e ⟨d,.slice t x lo hi none,ty,p,af,none⟩ H=.op (pU P t (e8 e x) (lo.map (e8 e)) (hi.map (e8 e)) H):=rfl
@[go_sem] theorem Ty (t:TypeId)(x:Operand)(f:Nat):mM P md nid ops e ⟨d,.fieldAddr t x f,ty,p,af,none⟩ H=.op (iD P t (e8 e x) f H):=rfl
@[go_sem] theorem Tx (t:TypeId)(x i:Operand):mM P md nid ops e ⟨d,.indexAddr t x i,ty,p,af,none⟩ H=.op (iC P t (e8 e x) (e8 e i) H):=rfl
@[go_sem] theorem X6 (t:TypeId)(x i:Operand):mM P md nid ops e ⟨d,.index t x i,ty,p,af,none⟩ H=.op (sE P t (e8 e x) (e8 e i) H):=rfl
@[go_sem] theorem Vr (x:Operand)(i:Nat):mM P md nid ops e ⟨d,.extract x i,ty,p,af,none⟩ H=.op (mI (e8 e x) i H):=rfl
@[go_sem] theorem Vt (b:Builtin)(args:Array Operand)(ts:Array TypeId):mM P md nid ops e ⟨d,.call ⟨.builtin b,args,ts⟩,ty,p,af,none⟩ H=.op (u5 P nid b (args.toList.map (e8 e)) ts.toList H):=rfl
@[go_sem] theorem ZF (f:FuncId)(args:Array Operand)(ts:Array TypeId):mM P md nid ops e ⟨d,.call ⟨.value (.func f),args,ts⟩,ty,p,af,none⟩ H=.call f (args.toList.map (e8 e)):=by
 simp [mM,gQ,e8,JA]
end
@[go_sem] theorem Ve (P:Program)(md:Nat->Bool)(ops:Array Oper)(rest:List Oper)(e:dM)(H:AHeap)(K:dM->AHeap->Prop)(d:Option Tmp)(op:Op)(ty:TypeId)(p:String)(af:Array Edge)(g:Option (Nat × Bool)) :
 mS P md ops (⟨d,op,ty,p,af,g⟩ :: rest) e H K=yO P md ops rest e d H K (mM P md H.next ops e ⟨d,op,ty,p,af,g⟩ H):=Q3 P md ops _ rest e H K
/-! ### code -/
section
variable (P:Program) (c:Cfg) (Q:Exit→dM→AHeap→Prop) (e:dM) (H:AHeap)
def wM (P:Program)(c:Cfg)(a b:Code)(Q:Exit->dM->AHeap->Prop)(e:dM)(H:AHeap):D->Prop
 | .bool t=>(t=true->oA P c a Q e H)/\(t=false->oA P c b Q e H)
 | _=>False
def Ag (P:Program)(c:Cfg)(b:Code)(Q:Exit->dM->AHeap->Prop)(e:dM)(H:AHeap):Prop:=oA P c (.loop b) Q e H
@[go_sem] theorem YX:oA P c .skip Q e H=Q .normal e H:=rfl
@[go_sem] theorem V6 (a:Nat)(l:List Oper):oA P c (.region a l.toArray false) Q e H=mS P c.own l.toArray l e H (Q .normal):=by
 simp [oA]
@[go_sem] theorem Y0 (a:Nat)(l:List Oper):oA P c (.region a l.toArray true) Q e H=jX P c.own l.toArray (c.sp a) H.next 0 l [] e ⟨H.next+l.length,H.al,H.get⟩ (Q .normal):=by
 simp [oA]
@[go_sem] theorem aaJ (a b:Code):oA P c (.seq a b) Q e H=oA P c a (sN (oA P c b Q) Q) e H:=rfl
@[go_sem] theorem Y1 (x:Operand)(a b:Code):oA P c (.cond x a b) Q e H=wM P c a b Q e H (e8 e x):=rfl
@[go_sem] theorem X1 (id:Nat)(b:Code):oA P c (.block id b) Q e H=oA P c b (AT id Q) e H:=rfl
@[go_sem] theorem YY (b:Code):oA P c (.loop b) Q e H=Ag P c b Q e H:=rfl
@[go_sem] theorem YZ (id:Nat):oA P c (.exit id) Q e H=Q (.exit id) e H:=rfl
@[go_sem] theorem aaK:oA P c .ret Q e H=Q .ret e H:=rfl
@[go_sem] theorem U5 (a b:Code):wM P c a b Q e H (.bool true)=oA P c a Q e H:=by simp [wM]
@[go_sem] theorem TU (a b:Code):wM P c a b Q e H (.bool false)=oA P c b Q e H:=by simp [wM]
@[go_sem] theorem SL (n:dM->AHeap->Prop):sN n Q .normal e H=n e H:=rfl
@[go_sem] theorem Vj (n:dM->AHeap->Prop):sN n Q .ret e H=Q .ret e H:=rfl
@[go_sem] theorem T8 (n:dM->AHeap->Prop)(i:Nat):sN n Q (.exit i) e H=Q (.exit i) e H:=rfl
@[go_sem] theorem SB (i:Nat):AT i Q .normal e H=Q .normal e H:=rfl
@[go_sem] theorem Va (i:Nat):AT i Q .ret e H=Q .ret e H:=rfl
@[go_sem] theorem M5 (i j:Nat):AT i Q (.exit j) e H=if j=i then Q .normal e H else Q (.exit j) e H:=rfl
@[go_sem] theorem WH (rs:List ResultVar)(R:D->AHeap->Prop):P4 P rs R .ret e H=Cg P rs e H λl=>R (EU l) H:=rfl
@[go_sem] theorem TA (rs:List ResultVar)(R:D->AHeap->Prop):P4 P rs R .normal e H=Cg P rs e H λl=>R (EU l) H:=rfl
@[go_sem] theorem XL (K:List D->Prop):Cg P [] e H K=K []:=rfl
@[go_sem] theorem XK (t:Tmp)(r:List ResultVar)(K:List D->Prop):Cg P (.tmp t :: r) e H K=Cg P r e H λl=>K (e t :: l):=rfl
@[go_sem] theorem V2 (a:Tmp)(t:TypeId)(r:List ResultVar)(K:List D->Prop):Cg P (.cell a t :: r) e H K=((nG P t (e a) H).cond/\Cg P r e H λl=>K ((nG P t (e a) H).val :: l)):=rfl
@[go_sem] theorem Wb (d:D):EU [d]=d:=rfl
end
attribute [go_sem] if_true if_false eX Bool.true_eq_false eq_self true_and and_true forall_const true_implies false_implies jD g6 List.toList_toArray dQ Option.map_none
 HV wT dG dA p7 fI implies_true
attribute [go_sem] HT G0 nG lY eK iD iC Eu kC o7 Ci KF wB sF iQ pU sE mJ yU tV Ch jI So mI Db u5 tW sC fK AOut.bad
 oU fL D.cells Aj BK.place Sw ite_self
@[go_sem] theorem YL (id:Nat):AHeap.emp.get id=none:=rfl
@[go_sem] theorem Xa:AHeap.emp.next=0:=rfl
@[go_sem] theorem Xt (H:AHeap)(i j:Nat)(k:Blk):(H.push i k).get j=if j=i then some k else H.get j:=rfl
@[go_sem] theorem YJ (H:AHeap)(i j:Nat)(k:Blk):(H.put i k).get j=if j=i then some k else H.get j:=rfl
@[go_sem] theorem VK (H:AHeap)(i:Nat)(k:Blk):(H.push i k).next=if i<H.next then H.next else i+1:=rfl
@[go_sem] theorem W8 (H:AHeap)(i:Nat)(k:Blk):(H.put i k).next=H.next:=rfl
@[go_sem] theorem Xu (n:Nat)(al:Nat->Prop)(g:Nat->Option Blk)(j:Nat):(AHeap.mk n al g).get j=g j:=rfl
@[go_sem] theorem VL (n:Nat)(al:Nat->Prop)(g:Nat->Option Blk):(AHeap.mk n al g).next=n:=rfl
section
variable (H:AHeap)
@[go_sem] theorem WD (k:IntKind)(n:Int):fH H (.int k n)=.int k n:=rfl
@[go_sem] theorem VF (b:Bool):fH H (.bool b)=.bool b:=rfl
@[go_sem] theorem WA (b:ByteArray):fH H (.str b)=.str b:=rfl
@[go_sem] theorem WC:fH H .nil=.nil:=rfl
@[go_sem] theorem VE (es:List (List D)):fH H (.list es)=.list es:=rfl
@[go_sem] theorem WE (es:List D):fH H (.adr es)=.adr es:=rfl
@[go_sem] theorem VC:fH H .nilp=.nilp:=rfl
@[go_sem] theorem VD:fH H .nilf=.nilf:=rfl
@[go_sem] theorem Yd (f:FuncId)(l:List D):fH H (.fn f l)=.fn f l:=rfl
@[go_sem] theorem WB (id n:Nat):fH H (.own id n)=match H.get id with|some k=>if k.es.length=n then .list k.es else .own id n|none=>.own id n:=rfl
@[go_sem] theorem Wz (id n lo hi:Nat):fH H (.win id n lo hi)=match H.get id with|some k=>if k.es.length=n then .list ((k.es.take hi).drop lo) else .win id n lo hi|none=>.win id n lo hi:=rfl
@[go_sem] theorem Wr (id n lo hi:Nat):iN H (.win id n lo hi)=fH H (.win id n lo hi):=rfl
@[go_sem] theorem Wj (id n lo hi:Nat):p9 H (.win id n lo hi)=fH H (.win id n lo hi):=rfl
@[go_sem] theorem Ww (k:IntKind)(n:Int):iN H (.int k n)=.int k n:=rfl
@[go_sem] theorem VB (b:Bool):iN H (.bool b)=.bool b:=rfl
@[go_sem] theorem Ws (b:ByteArray):iN H (.str b)=.str b:=rfl
@[go_sem] theorem Wv:iN H .nil=.nil:=rfl
@[go_sem] theorem VA (es:List (List D)):iN H (.list es)=.list es:=rfl
@[go_sem] theorem Wy (es:List D):iN H (.adr es)=.adr es:=rfl
@[go_sem] theorem Vy:iN H .nilp=.nilp:=rfl
@[go_sem] theorem Vz:iN H .nilf=.nilf:=rfl
@[go_sem] theorem Yc (f:FuncId)(l:List D):iN H (.fn f l)=.fn f l:=rfl
@[go_sem] theorem Wx (l:List D):iN H (.agg l)=.agg (l.map (fH H)):=rfl
@[go_sem] theorem Wu (id n:Nat):iN H (.own id n)=fH H (.own id n):=rfl
@[go_sem] theorem Wk (l:List D):p9 H (.tup l)=.tup (l.map (iN H)):=rfl
@[go_sem] theorem Wo (k:IntKind)(n:Int):p9 H (.int k n)=.int k n:=rfl
@[go_sem] theorem Vx (b:Bool):p9 H (.bool b)=.bool b:=rfl
@[go_sem] theorem Wl (b:ByteArray):p9 H (.str b)=.str b:=rfl
@[go_sem] theorem Wn:p9 H .nil=.nil:=rfl
@[go_sem] theorem Vw (es:List (List D)):p9 H (.list es)=.list es:=rfl
@[go_sem] theorem Wq (es:List D):p9 H (.adr es)=.adr es:=rfl
@[go_sem] theorem Vu:p9 H .nilp=.nilp:=rfl
@[go_sem] theorem Vv:p9 H .nilf=.nilf:=rfl
@[go_sem] theorem Yb (f:FuncId)(l:List D):p9 H (.fn f l)=.fn f l:=rfl
@[go_sem] theorem Wp (l:List D):p9 H (.agg l)=.agg (l.map (fH H)):=rfl
@[go_sem] theorem Wm (id n:Nat):p9 H (.own id n)=fH H (.own id n):=rfl
end
@[go_sem] theorem Xp (k:IntKind)(n:Int):kV (.int k n)=[]:=rfl
@[go_sem] theorem VQ (b:Bool):kV (.bool b)=[]:=rfl
@[go_sem] theorem Xm (b:ByteArray):kV (.str b)=[]:=rfl
@[go_sem] theorem Xo:kV .nil=[]:=rfl
@[go_sem] theorem VP (es:List (List D)):kV (.list es)=[]:=rfl
@[go_sem] theorem Xq (es:List D):kV (.adr es)=[]:=rfl
@[go_sem] theorem VN:kV .nilp=[]:=rfl
@[go_sem] theorem VO:kV .nilf=[]:=rfl
@[go_sem] theorem YC (f:FuncId)(l:List D):kV (.fn f l)=[]:=rfl
@[go_sem] theorem Xl (id n lo hi:Nat):kV (.win id n lo hi)=[id]:=rfl
@[go_sem] theorem Uj (id n lo hi:Nat):dU (.win id n lo hi)=[id]:=rfl
@[go_sem] theorem Xn (id n:Nat):kV (.own id n)=[id]:=rfl
@[go_sem] theorem Uo (k:IntKind)(n:Int):dU (.int k n)=[]:=rfl
@[go_sem] theorem TE (b:Bool):dU (.bool b)=[]:=rfl
@[go_sem] theorem Uk (b:ByteArray):dU (.str b)=[]:=rfl
@[go_sem] theorem Un:dU .nil=[]:=rfl
@[go_sem] theorem TD (es:List (List D)):dU (.list es)=[]:=rfl
@[go_sem] theorem Uq (es:List D):dU (.adr es)=[]:=rfl
@[go_sem] theorem TB:dU .nilp=[]:=rfl
@[go_sem] theorem TC:dU .nilf=[]:=rfl
@[go_sem] theorem VI (f:FuncId)(l:List D):dU (.fn f l)=[]:=rfl
@[go_sem] theorem Um (id n:Nat):dU (.own id n)=[id]:=rfl
@[go_sem] theorem Up (l:List D):dU (.agg l)=l.flatMap kV:=rfl
@[go_sem] theorem Xv (H:AHeap)(id:Nat):H.frz id=match H.get id with|some k=>H.put id { k with fz:=true } | none=>H:=rfl
@[go_sem] theorem WJ (H:AHeap)(a:Nat)(k b:Blk):(H.push a k).put a b=H.push a b:=by
 unfold AHeap.push AHeap.put
 grind
@[go_sem] theorem Yf (H:AHeap)(a:Nat)(k b:Blk):(H.put a k).put a b=H.put a b:=by
 unfold AHeap.put
 grind
section
variable {P:Program} {c:Cfg} {Q:Exit→dM→AHeap→Prop} {e:dM} {H:AHeap} {a b:Code}
theorem aP {t:Bool}(h1:t=true->oA P c a Q e H)(h2:t=false->oA P c b Q e H):wM P c a b Q e H (.bool t):=⟨h1,h2⟩
theorem f9 {p:Prop}[Decidable p](h1:p->oA P c a Q e H)(h2:¬ p->oA P c b Q e H):wM P c a b Q e H (.bool (decide p)):=⟨λh=>h1 (of_decide_eq_true h),λh=>h2 (of_decide_eq_false h)⟩
end
attribute [irreducible] wM fM yI Ag
end Go.Abs
end
section
namespace Go.Abs
section
variable {P:Program} {c:Cfg} {md:Nat→Bool}
theorem GY {t:Option Nat}{nid:Nat}{ops:Array Oper}{e:dM}{o:Oper}{H:AHeap}{K K':D->AHeap->List Nat->Prop}(d:∀ v H F,K v H F->K' v H F)(h:o6 P md t nid ops e o H K):o6 P md t nid ops e o H K':=by
 unfold o6 at h ⊢
 cases x:o.guard with
 | none =>
  simp only [x] at h ⊢
  cases k:gQ e o with
  | none=>simp only [k] at h ⊢;exact ⟨h.1,λhf=>d _ _ _ (h.2 hf)⟩
  | some p =>
   obtain ⟨f,s⟩:=p
   simp only [k] at h ⊢
   cases t with
   | none=>exact h.mono λ_ _ h=>d _ _ _ h
   | some m =>
    rcases h with ⟨r,S,y,c⟩|⟨z,r,S,u,q,A,hq,y,c⟩
    .exact .inl ⟨r,S,y,d _ _ _ c⟩
    grind
 | some p =>
  obtain ⟨j,b⟩:=p
  simp only [x] at h ⊢
  cases i:gD ops e j with
  | none=>simp only [i] at h
  | some gc =>
   obtain ⟨g,B⟩:=gc
   simp only [i] at h ⊢
   refine ⟨h.1,?_⟩
   have c:=h.2
   cases k:gQ (gE e o.op) o with
   | none=>simp only [k] at c ⊢;exact ⟨c.1,λhf=>d _ _ _ (c.2 hf)⟩
   | some p =>
    obtain ⟨f,s⟩:=p
    simp only [k] at c ⊢
    cases t with
    | some _=>obtain ⟨r,S,n,l⟩:=c;exact ⟨r,S,n,d _ _ _ l⟩
    | none =>
     rcases c with ⟨r,S,n,l⟩|⟨n,l⟩
     .exact .inl ⟨r,S,n,d _ _ _ l⟩
     .exact .inr ⟨λhq=>(n hq).mono λ_ _ h=>d _ _ _ h,λhq=>(l hq).imp λ_ h=>d _ _ _ h⟩
theorem Jh {ops:Array Oper}{K K':dM->AHeap->Prop}(hk:∀ e H,K e H->K' e H):∀ (l:List Oper) (e:dM) (H:AHeap),mS P md ops l e H K->mS P md ops l e H K'
 | [],e,H,h=>hk _ _ h
 | o :: l,e,H,h=>by
  unfold mS at h ⊢
  exact GY (λv H' _ h=>Jh hk l _ _ h) h
theorem G1 {ops:Array Oper}{sp:List (Nat × Nat)}{n0:Nat}{K K':dM->AHeap->Prop}(hk:∀ e H,K e H->K' e H):∀ (l:List Oper) (i:Nat) (acc:List (Nat × List Nat)) (e:dM) (H:AHeap),
  jX P md ops sp n0 i l acc e H K->jX P md ops sp n0 i l acc e H K'
 | [],i,acc,e,H,h=>by unfold jX at h ⊢;exact hk _ _ h
 | o :: l,i,acc,e,H,h=>by
  unfold jX at h ⊢
  exact GY (λv H' _ h=>⟨h.1,G1 hk l _ _ _ _ h.2⟩) h
theorem vB {n a:dM->AHeap->Prop}{Q b:Exit->dM->AHeap->Prop}(d:∀ e H,n e H->a e H)(c:∀ x e H,Q x e H->b x e H):∀ x e H,sN n Q x e H->sN a b x e H:=by
 intro x e H h
 cases x<;>first|exact d _ _ h|exact c _ _ _ h
theorem M4 {i:Nat}{Q a:Exit->dM->AHeap->Prop}(b:∀ x e H,Q x e H->a x e H):∀ x e H,AT i Q x e H->AT i a x e H:=by
 intro x e H h
 cases x<;>first|exact b _ _ _ h|skip
 rename_i j
 rw [M5] at h ⊢
 grind
theorem qI:∀ (x:Code) {Q Q':Exit->dM->AHeap->Prop} (hq:∀ x e H,Q x e H->Q' x e H) (e:dM) (H:AHeap),oA P c x Q e H->oA P c x Q' e H
 | .skip,Q,Q',hq,e,H,h=>hq _ _ _ h
 | .region id ops dr,Q,Q',hq,e,H,h=>by
  unfold oA at h ⊢
  cases dr with
  | false=>simp only [eX,if_false] at h ⊢;exact Jh (λe H h=>hq _ _ _ h) _ _ _ h
  | true=>simp only [if_true] at h ⊢;exact G1 (λe H h=>hq _ _ _ h) _ _ _ _ _ h
 | .seq a b,Q,Q',hq,e,H,h=>by
  unfold oA at h ⊢
  exact qI a (vB (λe H h=>qI b hq e H h) hq) e H h
 | .cond x a b,Q,Q',hq,e,H,h=>by
  unfold oA at h ⊢
  cases hv:e8 e x<;>simp only [hv] at h ⊢<;>try (exact h.elim)
  exact ⟨λht=>qI a hq e H (h.1 ht),λht=>qI b hq e H (h.2 ht)⟩
 | .block id b,Q,Q',hq,e,H,h=>by
  unfold oA at h ⊢
  exact qI b (M4 hq) e H h
 | .loop b,Q,Q',hq,e,H,h=>by
  unfold oA at h ⊢
  obtain ⟨I,h0,hI⟩:=h
  exact ⟨I,h0,λk e' H' hi=>qI b (vB (λ_ _ h=>h) hq) _ _ (hI k e' H' hi)⟩
 | .exit id,Q,Q',hq,e,H,h=>hq _ _ _ h
 | .ret,Q,Q',hq,e,H,h=>hq _ _ _ h
 | .rangeFunc ..,Q,Q',hq,e,H,h=>h.elim
 | .scope ..,Q,Q',hq,e,H,h=>h.elim
 | .label ..,Q,Q',hq,e,H,h=>h.elim
 | .goto ..,Q,Q',hq,e,H,h=>h.elim
 | .refuse ..,Q,Q',hq,e,H,h=>h.elim
theorem fS {b:Code}{Q:Exit->dM->AHeap->Prop}{e:dM}{H:AHeap}{ι:Type}(I:ι->dM->AHeap->Prop)(μ:ι->Nat)(g:ι)(m:I g e H)
  (j:∀ x e H,I x e H->oA P c b (sN (λe' H'=>∃ x',μ x'<μ x/\I x' e' H') Q) e H):Ag P c b Q e H:=by
 unfold Ag oA
 refine ⟨λk e H=>∃ x,μ x=k/\I x e H,⟨H,.refl H,_,g,rfl,m⟩,λk e' H' ⟨x,l,i⟩=>qI b (vB (λe'' f ⟨x',d,a⟩=>⟨f,.refl _,_,l ▸ d,x',rfl,a⟩) λ_ _ _ h=>h) _ _ (j x e' H' i)⟩
theorem BG {b:Code}{Q:Exit->dM->AHeap->Prop}{e:dM}{H H':AHeap}(m:Ghosts H H'){ι:Type}(I:ι->dM->AHeap->Prop)(μ:ι->Nat)(g:ι)(n:I g e H')
  (j:∀ x e H,I x e H->oA P c b (sN (λe' H'=>∃ H3,Ghosts H' H3/\∃ x',μ x'<μ x/\I x' e' H3) Q) e H):Ag P c b Q e H:=by
 unfold Ag oA
 refine ⟨λk e H=>∃ x,μ x=k/\I x e H,⟨H',m,_,g,rfl,n⟩,λk e' H' ⟨x,l,i⟩=>qI b (vB (λe'' H'' ⟨H3,f,x',d,a⟩=>⟨H3,f,_,l ▸ d,x',rfl,a⟩) λ_ _ _ h=>h) _ _ (j x e' H' i)⟩
theorem aB {ops:Array Oper}{a:List Oper}{e:dM}{b:Option Tmp}{K:dM->AHeap->Prop}{f:FuncId}{args:List D}{H:AHeap}{r:D}(d:Pure P f args r)(c:D.clL args=true)
 (h:mS P md ops a (oD e b r) H K):fM P md ops a e b K f args H:=by grind [fM, rC]
theorem dW {ops:Array Oper}{a:List Oper}{e:dM}{b:Option Tmp}{K:dM->AHeap->Prop}{f:FuncId}{args args':List D}{H:AHeap}{r:D}(d:Pure P f args' r)(i:args.map (iN H)=args')(c:D.clL args'=true)(g:r.flat=true)
 (h:mS P md ops a (oD e b r) H K):fM P md ops a e b K f args H:=by grind [fM, wC]
theorem MX {ops:Array Oper}{a:List Oper}{e:dM}{b:Option Tmp}{K:dM->AHeap->Prop}{f:FuncId}{args args':List D}{H H':AHeap}{r:D}(g:Pure P f args' r)(i:args.map (iN H)=args')(c:D.clL args'=true)
 (d:fK (args.flatMap dU) H=H') (h:mS P md ops a (oD e b r) H' K):fM P md ops a e b K f args H:=by grind [fM, KL]
theorem lN {ops:Array Oper}{a:List Oper}{e:dM}{b:Option Tmp}{K:dM->AHeap->Prop}{f:FuncId}{args:List D}{H:AHeap}{ty:TypeId}{sz:Nat}{es:List (List D)}(d:Own P f args ty sz es)(c:D.clL args=true)
 (h:mS P md ops a (oD e b (.own H.next es.length)) (H.push H.next ⟨ty,sz,es,false⟩) K):fM P md ops a e b K f args H:=by grind [fM, D3]
end
end Go.Abs
end
