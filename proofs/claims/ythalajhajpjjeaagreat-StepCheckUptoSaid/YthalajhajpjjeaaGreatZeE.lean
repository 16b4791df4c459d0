/- The abstraction layer, part S: whole bodies, functions, cont -/
import Derived.Test.YthalajhajpjjeaaGreatZeD
set_option linter.unusedVariables false
set_option linter.unusedSimpArgs false
section
namespace Go.Abs
abbrev dA:=Nat→D
structure Cfg where
 own:Nat→Bool
 sp:Nat→List (Nat × Nat)
def Er (H:AHeap)(id i off:Nat)(ty sz:Nat):AHeap :=
 match H.get id with
 | some k=>(H.put id { k with es:=k.es.set i ((k.es[i]?.getD []).set off (.own H.next 0)) }).push H.next ⟨ty,sz,[],false⟩
 | none=>H
def AHeap.drop (H:AHeap)(id:Nat):AHeap:=⟨H.next,H.al,fun i=>if i=id then none else H.get i⟩
def y3 (H:AHeap)(id i off q hi:Nat):AHeap :=
 match H.get id,H.get q with
 | some k,some kq=>(((H.drop q).push H.next ⟨kq.ty,kq.sz,kq.es.take hi,false⟩).put id { k with es:=k.es.set i ((k.es[i]?.getD []).set off (.own H.next hi)) })
 | _,_=>H
inductive Ghosts:AHeap→AHeap→Prop
 | refl (H:AHeap):Ghosts H H
 | trunc {H H1:AHeap} (h:Ghosts H H1) (id i off q hi:Nat) (k kq:Blk) (c:List D) (hk:H1.get id=some k) (hf:k.fz=false) (hc:k.es[i]?=some c) (hq:H1.get q=some kq) (hn:c[off]?=some (.win q kq.es.length 0 hi)) (hqf:kq.fz=false) (hne:id≠q):Ghosts H (y3 H1 id i off q hi)
 | step {H H1:AHeap} (h:Ghosts H H1) (id i off ty sz:Nat) (k:Blk) (c:List D) (hk:H1.get id=some k) (hf:k.fz=false) (hc:k.es[i]?=some c) (hn:c[off]?=some .nil):Ghosts H (Er H1 id i off ty sz)
def qX (next:dA→AHeap→Prop)(Q:Exit→dA→AHeap→Prop):Exit→dA→AHeap→Prop
 | .normal,e,H=>next e H
 | ex,e,H=>Q ex e H
def zD (id:Nat)(Q:Exit→dA→AHeap→Prop):Exit→dA→AHeap→Prop
 | .exit id',e,H=>if id'=id then Q .normal e H else Q (.exit id') e H
 | ex,e,H=>Q ex e H
def mE (P:Program)(c:Cfg):Code→(Exit→dA→AHeap→Prop)→dA→AHeap→Prop
 | .skip,Q,e,H=>Q .normal e H
 | .region id ops dr,Q,e,H =>
  if dr then iX P c.own ops (c.sp id) H.next 0 ops.toList [] e { H with next:=H.next+ops.size } (Q .normal)
  else lL P c.own ops ops.toList e H (Q .normal)
 | .seq a b,Q,e,H=>mE P c a (qX (mE P c b Q) Q) e H
 | .cond x a b,Q,e,H=>match eB e x with
  | .bool t=>(t=true→mE P c a Q e H)∧(t=false→mE P c b Q e H)
  | _=>False
 | .block id b,Q,e,H=>mE P c b (zD id Q) e H
 | .loop b,Q,e,H=>∃ I:Nat→dA→AHeap→Prop,(∃ H',Ghosts H H'∧∃ k,I k e H')∧∀ k e' H',I k e' H'→mE P c b (qX (fun e'' H''=>∃ H3,Ghosts H'' H3∧∃ k',k'<k∧I k' e'' H3) Q) e' H'
 | .exit id,Q,e,H=>Q (.exit id) e H
 | .ret,Q,e,H=>Q .ret e H
 | _,_,_,_=>False
def mW (c:Cfg)(n:Nat):Code→Bool
 | .region id ops dr=>(ops.toList.all fun o=>oP n o.dst)&&(!dr||tK c.own ops (c.sp id))
 | .seq a b=>mW c n a&&mW c n b
 | .cond _ a b=>mW c n a&&mW c n b
 | .block _ b=>mW c n b
 | .loop b=>mW c n b
 | _=>true
section
variable {P:Program} {c:Cfg} {n:Nat} {M0:Nat→Prop}
theorem gI {x:Code}{Q Q':Exit→Act→World→Prop}{a:Act}{w:World}(h:x.wp P Q a w)(hq:∀ e a w,Q e a w→Q' e a w):x.wp P Q' a w:=wp_mono h hq
theorem fD {p:Nat→Prop}(h:∃ k,p k):∃ k,p k∧∀ j,j<k→¬ p j:=by
 obtain ⟨k,hk⟩:=h
 induction k using Nat.strongRecOn with
 | _ k ih =>
  by_cases hj:∃ j,j<k∧p j
  ·obtain ⟨j,hlt,hp⟩:=hj
   exact ih j hlt hp
  ·exact ⟨k,hk,fun j hlt hp=>hj ⟨j,hlt,hp⟩⟩
def Nj (n:Nat)(M0:Nat→Prop)(H0:AHeap)(σ0:Nat→Option Ow)(w0:World)(Q:Exit→dA→AHeap→Prop)(ex:Exit)(a:Act)(w:World):Prop:=Came n M0 H0 σ0 w0 (Q ex) a w
theorem uA {sz:Nat}(d:D)(off:Nat)(c:List D):∀ (es:List (List D)) (i:Nat),(∀ c∈es,c.length=sz)→es[i]?=some c→off<sz→(es.set i (c.set off d)).flatten=es.flatten.set (i * sz+off) d
 | [],i,_,h,_=>by simp at h
 | a :: es,0,hl,h,ho=>by
  simp at h;subst h
  have:=hl a (by simp)
  simp only [sB,dU,Nat.zero_mul,dQ]
  rw [List.set_append_left _ _ (by omega)]
 | a :: es,i+1,hl,h,ho=>by
  have ha:=hl a (by simp)
  simp at h
  have ih:=uA d off c es i (fun c hc=>hl c (by simp [hc])) h ho
  simp only [BH,dU,ih]
  rw [oA _ _ (by rw [Nat.add_mul];omega)]
  congr 2
  rw [ha,Nat.add_mul];omega
theorem Kf {H:AHeap}{σ:Nat→Option Ow}{w:World}(hR:Rel M0 H σ w){id i off ty sz:Nat}{k:Blk}{c0:List D}(hk:H.get id=some k)(hf:k.fz=false)(hc:k.es[i]?=some c0)(hn:c0[off]?=some .nil) :
  ∃ σ',Rel M0 (Er H id i off ty sz) σ' w∧Stp σ w σ' w∧Keeps (cF M0 H σ) σ H.al w (cF M0 (Er H id i off ty sz) σ') σ' (Er H id i off ty sz).al w:=by
 have hal:¬ H.al H.next:=fun h=>mC _ (hR.nxt _ h)
 have hid:H.al id:=bE fun hn=>by rw [(hR.top id hn).2] at hk;cases hk
 have hne:id≠H.next:=fun h=>hal (h ▸ hid)
 obtain ⟨p1,p2,p3⟩:=Rel.push hR H.next hal (w':=w) rfl rfl rfl (bC _) (fun _ _=>rfl) ⟨ty,sz,[],false⟩ ⟨0,.slice none 0 0,sz,ty⟩ (fun b hb=>by simp [Ow.block,Value.ownBlock] at hb) rfl rfl rfl (fun c hc=>by simp at hc) []
  ⟨by simp,.inl ⟨rfl,rfl⟩⟩ (by simp) ⟨rfl,fun j u d hu=>by simp at hu⟩
 obtain ⟨o,ho,l⟩:=hR.lies id k hk
 obtain ⟨xs,hrow,hx1,hrep⟩:=l.row
 have hk1:(H.push H.next ⟨ty,sz,[],false⟩).get id=some k:=by simp [AHeap.push,hne,hk]
 have ho1:(fun i=>if i=H.next then some (⟨0,.slice none 0 0,sz,ty⟩:Ow) else σ i) id=some o:=by simp [hne,ho]
 have hlen0:=l.esz c0 (aJ hc)
 have hoff:off<o.esz:=by rw [← hlen0];exact (aL.1 hn).1
 have hesz':∀ c∈k.es.set i (c0.set off (.own H.next 0)),c.length=o.esz:=fun c hc'=>by
  rcases lA hc' with h|h
  ·exact l.esz c h
  ·subst h;simp [hlen0]
 have hfl:=uA (D.own H.next 0) off c0 k.es i l.esz hc hoff
 obtain ⟨q1,q2,q3⟩:=Rel.put p1 hk1 hf ho1 { k with es:=k.es.set i (c0.set off (.own H.next 0)) } o ⟨rfl,rfl,rfl,bC _,fun _ _ _=>rfl⟩ (fun b hb=>.inl hb) (.inl rfl) (by simp [l.ver]) l.ty l.sz hesz' xs (by simpa using hrow) hx1 (by
   have hrep':=hrep.keep p3
   simp only
   rw [hfl]
   refine ⟨by simpa using hrep'.len,fun j u d hu hd=>?_⟩
   rw [dN] at hd
   split at hd
   ·rename_i hj
    split at hd
    ·cases hd
     have hold:k.es.flatten[j]?=some .nil:=by
      rw [← hj,kX k.es i c0 l.esz hc off hoff];exact hn
     have hv:=hrep'.rep j u _ hu hold
     cases hv
     exact .own _ _ _ (.inl rfl) rfl fun o' ho'=>by simp at ho';subst ho';exact .inr ⟨rfl,rfl⟩
    ·cases hd
   ·exact hrep'.rep j u d hu hd)
 have hg:Er H id i off ty sz=(H.push H.next ⟨ty,sz,[],false⟩).put id { k with es:=k.es.set i (c0.set off (.own H.next 0)) }:=by
  simp only [Er,hk,hc,aD]
  unfold AHeap.push AHeap.put
  congr 1
  funext j
  by_cases h1:j=H.next
  ·simp [h1,Ne.symm hne]
  ·simp [h1]
 rw [hg]
 exact ⟨_,q1,p2.trans q2,p3.trans q3⟩
theorem A1 {sz:Nat}:∀ (es:List (List D)) (n:Nat),(∀ c∈es,c.length=sz)→(es.take n).flatten=es.flatten.take (n * sz)
 | [],n,_=>by simp
 | a :: es,0,_=>by simp
 | a :: es,n+1,h=>by
  have ha:=h a (by simp)
  rw [qR,dU,dU,A1 es n fun c hc=>h c (by simp [hc]),Nat.add_mul,Nat.one_mul,Nat.add_comm,← ha,List.take_length_add_append]
theorem No {H:AHeap}{σ:Nat→Option Ow}{w:World}(hR:Rel M0 H σ w){q hi n:Nat}{kq:Blk}{oq:Ow}(hq:H.get q=some kq)(hqf:kq.fz=false)(hoq:σ q=some oq)(hn:¬ H.al n){v:Value}(hh:hi≤kq.es.length)(hv:PL oq v kq.es.length 0 hi) :
  let σ':Nat→Option Ow:=fun i=>if i=n then some ⟨hi,v,oq.esz,oq.ty⟩ else if i=q then none else σ i
  Rel M0 ((H.drop q).push n ⟨kq.ty,kq.sz,kq.es.take hi,false⟩) σ' w∧Stp σ w σ' w∧Keeps (cF M0 H σ) σ H.al w (cF M0 ((H.drop q).push n ⟨kq.ty,kq.sz,kq.es.take hi,false⟩) σ') σ' ((H.drop q).push n ⟨kq.ty,kq.sz,kq.es.take hi,false⟩).al w:=by
 intro σ'
 have hqal:H.al q:=bE fun h=>by rw [(hR.top q h).1] at hoq;cases hoq
 have hqn:q≠n:=fun e=>hn (e ▸ hqal)
 have hblk:∀ b,v.ownBlock=some b→oq.block=some b:=fun b hb=>by
  rcases hv with ⟨_,rfl,_⟩|⟨b',cap,h1,h2,rfl⟩
  ·simp [Value.ownBlock] at hb
  ·simp only [Value.ownBlock] at hb
   simp only [Ow.block,h1,Value.ownBlock]
   rw [← hb];split<;>rfl
 have hmut:∀ b,cF M0 ((H.drop q).push n ⟨kq.ty,kq.sz,kq.es.take hi,false⟩) σ' b→cF M0 H σ b:=by
  rintro b (hm|⟨i,k',o',hk',hf,ho',hb'⟩)
  ·exact .inl hm
  ·by_cases h1:i=n
   ·simp only [σ',h1,if_true,aX] at ho'
    subst ho'
    exact .inr ⟨q,kq,oq,hq,hqf,hoq,hblk b hb'⟩
   ·by_cases h2:i=q
    ·simp only [σ',h1,h2,if_false,if_true,hqn] at ho';cases ho'
    ·simp only [σ',h1,h2,if_false] at ho'
     simp only [AHeap.push,AHeap.drop,h1,h2,if_false] at hk'
     exact .inr ⟨i,k',o',hk',hf,ho',hb'⟩
 have hkeep:Keeps (cF M0 H σ) σ H.al w (cF M0 ((H.drop q).push n ⟨kq.ty,kq.sz,kq.es.take hi,false⟩) σ') σ' ((H.drop q).push n ⟨kq.ty,kq.sz,kq.es.take hi,false⟩).al w:=by
  refine ⟨fun ad u hm hu=>⟨fun h=>hm (hmut _ h),hu⟩,fun i o' hi' ho'=>?_,fun i hi'=>.inr hi'⟩
  have h1:i≠n:=fun e=>hn (e ▸ hi')
  by_cases h2:i=q
  ·simp only [σ',h2,if_true,hqn,if_false] at ho';cases ho'
  ·simp only [σ',h1,h2,if_false] at ho'
   exact ⟨o',ho',.inl rfl⟩
 have hold:∀ {i o'},i≠n→σ' i=some o'→i≠q∧σ i=some o':=fun {i o'} h1 ho'=>by
  by_cases h2:i=q
  ·simp only [σ',h2,if_true,hqn,if_false] at ho';cases ho'
  ·simp only [σ',h1,h2,if_false] at ho';exact ⟨h2,ho'⟩
 obtain ⟨o2,ho2,l⟩:=hR.lies q kq hq
 rw [hoq] at ho2;cases ho2
 obtain ⟨xs,hrow,hx1,hrep⟩:=l.row
 refine ⟨⟨fun i hi'=>?_,fun i hi'=>?_,fun i k' hk'=>?_,fun i j oi oj b hi' hj' hbi hbj=>?_,fun i oi b hi' hbi=>?_,hR.m0⟩,⟨rfl,rfl,rfl,bC _,fun _ _ _=>rfl,fun i o' b ho' hb'=>?_⟩,hkeep⟩
 ·have hi2:¬ (i=n∨H.al i):=hi'
  have h1:i≠n:=fun e=>hi2 (.inl e)
  have h2:i≠q:=fun e=>hi2 (.inr (e ▸ hqal))
  simp only [σ',AHeap.push,AHeap.drop,h1,h2,if_false]
  exact hR.top i fun e=>hi2 (.inr e)
 ·have hi2:i=n∨H.al i:=hi'
  have he:((H.drop q).push n ⟨kq.ty,kq.sz,kq.es.take hi,false⟩).next=if n<H.next then H.next else n+1:=rfl
  rw [he]
  rcases hi2 with rfl|hi2
  ·by_cases h:i<H.next
   ·rw [if_pos h];exact h
   ·rw [if_neg h];omega
  ·have:=hR.nxt i hi2
   by_cases h:n<H.next
   ·rw [if_pos h];exact this
   ·rw [if_neg h];omega
 ·by_cases h1:i=n
  ·simp only [AHeap.push,h1,if_true,aX] at hk'
   subst hk'
   refine ⟨⟨hi,v,oq.esz,oq.ty⟩,by simp [σ',h1],by simp;omega,l.ty,l.sz,fun c hc=>l.esz c (b9 hc),xs.take (hi * oq.esz),⟨?_,?_⟩,fun u hu=>hx1 u (b9 hu),?_⟩
   ·have:=hrow.1
    have h2:hi * oq.esz≤kq.es.length * oq.esz:=eG _ hh
    simp only [cN]
    rw [Nat.min_eq_left hh,Nat.min_eq_left (by omega)]
   ·have hm:(kq.es.take hi).length=hi:=by simp;omega
    simp only [hm]
    rcases hv with ⟨h1,h2,h3⟩|⟨b',cap,h1,h2,h3⟩
    ·exact .inl ⟨h2,h3⟩
    ·rcases hrow.2 with ⟨hn0,_⟩|⟨g,cap',cur,e1,e2,e3,e4,e5,e6,e7⟩
     ·rw [h1] at hn0;cases hn0
     ·rw [h1] at e1;cases e1
      refine .inr ⟨b',cap,cur,?_,dF _,e3,by omega,e5,e6,?_⟩
      ·rw [h3];simp
      ·rw [← e7,List.take_take,Nat.min_eq_left (eG _ hh)]
   ·have hr:=hrep.keep hkeep
    refine ⟨?_,fun j u d hu hd=>?_⟩
    ·simp only
     rw [A1 kq.es hi l.esz]
     simp [hr.len]
    ·simp only at hd
     rw [A1 kq.es hi l.esz,bM] at hd
     rw [bM] at hu
     split at hd
     ·rename_i hj;rw [if_pos hj] at hu;exact hr.rep j u d hu hd
     ·cases hd
  ·by_cases h2:i=q
   ·simp only [AHeap.push,AHeap.drop,h1,h2,if_false,if_true,hqn] at hk';cases hk'
   ·simp only [AHeap.push,AHeap.drop,h1,h2,if_false] at hk'
    obtain ⟨o',ho',l'⟩:=hR.lies i k' hk'
    obtain ⟨xs',a1,a2,a3⟩:=l'.row
    exact ⟨o',by simp [σ',h1,h2,ho'],l'.ver,l'.ty,l'.sz,l'.esz,xs',a1,a2,a3.keep hkeep⟩
 ·by_cases h1:i=n<;>by_cases h2:j=n
  ·rw [h1,h2]
  ·simp only [σ',h1,if_true,aX] at hi'
   subst hi'
   obtain ⟨h3,h4⟩:=hold h2 hj'
   exact absurd (hR.inj j q oj oq b h4 hoq hbj (hblk b hbi)) h3
  ·simp only [σ',h2,if_true,aX] at hj'
   subst hj'
   obtain ⟨h3,h4⟩:=hold h1 hi'
   exact absurd (hR.inj i q oi oq b h4 hoq hbi (hblk b hbj)) h3
  ·exact hR.inj i j oi oj b (hold h1 hi').2 (hold h2 hj').2 hbi hbj
 ·by_cases h1:i=n
  ·simp only [σ',h1,if_true,aX] at hi'
   subst hi'
   exact hR.lt q oq b hoq (hblk b hbi)
  ·exact hR.lt i oi b (hold h1 hi').2 hbi
 ·by_cases h1:i=n
  ·simp only [σ',h1,if_true,aX] at ho'
   subst ho'
   exact .inr ⟨q,oq,hoq,hblk b hb'⟩
  ·exact .inr ⟨i,o',(hold h1 ho').2,hb'⟩
theorem Id {H:AHeap}{σ:Nat→Option Ow}{w:World}(hR:Rel M0 H σ w){id i off q hi:Nat}{k kq:Blk}{c0:List D}(hk:H.get id=some k)(hf:k.fz=false)(hc:k.es[i]?=some c0)(hq:H.get q=some kq)
  (hn:c0[off]?=some (.win q kq.es.length 0 hi)) (hqf:kq.fz=false) (hne:id≠q) :
  ∃ σ',Rel M0 (y3 H id i off q hi) σ' w∧Stp σ w σ' w∧Keeps (cF M0 H σ) σ H.al w (cF M0 (y3 H id i off q hi) σ') σ' (y3 H id i off q hi).al w:=by
 have hal:¬ H.al H.next:=fun h=>mC _ (hR.nxt _ h)
 have hid:H.al id:=bE fun hn=>by rw [(hR.top id hn).2] at hk;cases hk
 have hidn:id≠H.next:=fun h=>hal (h ▸ hid)
 obtain ⟨oq,hoq,lq⟩:=hR.lies q kq hq
 obtain ⟨o,ho,l⟩:=hR.lies id k hk
 obtain ⟨xs,hrow,hx1,hrep⟩:=l.row
 have hlen0:=l.esz c0 (aJ hc)
 have hoff:off<o.esz:=by rw [← hlen0];exact (aL.1 hn).1
 have hold:k.es.flatten[i * o.esz+off]?=some (.win q kq.es.length 0 hi):=by rw [kX k.es i c0 l.esz hc off hoff];exact hn
 have hlt:i * o.esz+off<xs.length:=by rw [hrep.len];exact (aL.1 hold).1
 obtain ⟨v,hv⟩:∃ v,xs[i * o.esz+off]?=some v:=⟨_,aA hlt⟩
 have hrv:=hrep.rep _ v _ hv hold
 have hone:v.oneCell'=true:=hx1 v (aJ hv)
 obtain ⟨hh,hw⟩:hi≤kq.es.length∧PL oq v kq.es.length 0 hi:=by
  cases hrv
  rename_i _ _ hlh h
  refine ⟨hlh.2,?_⟩
  rcases h oq hoq with h'|⟨_,h'⟩
  ·have:=lq.ver;omega
  ·exact h'
 obtain ⟨p1,p2,p3⟩:=No hR hq hqf hoq hal hh hw
 have hk1:((H.drop q).push H.next ⟨kq.ty,kq.sz,kq.es.take hi,false⟩).get id=some k:=by simp [AHeap.push,AHeap.drop,hidn,hne,hk]
 have ho1:(fun i=>if i=H.next then some (⟨hi,v,oq.esz,oq.ty⟩:Ow) else if i=q then none else σ i) id=some o:=by simp [hidn,hne,ho]
 have hesz':∀ c∈k.es.set i (c0.set off (.own H.next hi)),c.length=o.esz:=fun c hc'=>by
  rcases lA hc' with h|h
  ·exact l.esz c h
  ·subst h;simp [hlen0]
 have hfl:=uA (D.own H.next hi) off c0 k.es i l.esz hc hoff
 obtain ⟨q1,q2,q3⟩:=Rel.put p1 hk1 hf ho1 { k with es:=k.es.set i (c0.set off (.own H.next hi)) } o ⟨rfl,rfl,rfl,bC _,fun _ _ _=>rfl⟩ (fun b hb=>.inl hb) (.inl rfl) (by simp [l.ver]) l.ty l.sz hesz' xs (by simpa using hrow) hx1 (by
   have hrep':=hrep.keep p3
   simp only
   rw [hfl]
   refine ⟨by simpa using hrep'.len,fun j u d hu hd=>?_⟩
   rw [dN] at hd
   split at hd
   ·rename_i hj
    split at hd
    ·cases hd
     rw [← hj,hv] at hu
     cases hu
     exact .own _ _ _ (.inl rfl) hone fun o' ho'=>by simp at ho';subst ho';exact .inr ⟨rfl,rfl⟩
    ·cases hd
   ·exact hrep'.rep j u d hu hd)
 have hg:y3 H id i off q hi=((H.drop q).push H.next ⟨kq.ty,kq.sz,kq.es.take hi,false⟩).put id { k with es:=k.es.set i (c0.set off (.own H.next hi)) }:=by
  simp only [y3,hk,hq,hc,aD]
 rw [hg]
 exact ⟨_,q1,p2.trans q2,p3.trans q3⟩
theorem t7 {H H':AHeap}(hg:Ghosts H H'){σ:Nat→Option Ow}{w:World}(hR:Rel M0 H σ w):∃ σ',Rel M0 H' σ' w∧Stp σ w σ' w∧Keeps (cF M0 H σ) σ H.al w (cF M0 H' σ') σ' H'.al w:=by
 induction hg with
 | refl=>exact ⟨σ,hR,.refl _ _,.refl _ _ _ _⟩
 | trunc h id i off q hi k kq c hk hf hc hq hn hqf hne ih =>
  obtain ⟨σ1,h1,h2,h3⟩:=ih
  obtain ⟨σ2,h4,h5,h6⟩:=Id h1 hk hf hc hq hn hqf hne
  exact ⟨σ2,h4,h2.trans h5,h3.trans h6⟩
 | step h id i off ty sz k c hk hf hc hn ih =>
  obtain ⟨σ1,h1,h2,h3⟩:=ih
  obtain ⟨σ2,h4,h5,h6⟩:=Kf (ty:=ty) (sz:=sz) h1 hk hf hc hn
  exact ⟨σ2,h4,h2.trans h5,h3.trans h6⟩
theorem St.keeps {H H':AHeap}{σ σ':Nat→Option Ow}{w:World}{e:dA}{a:Act}(hS:St n M0 H σ w e a)(hR:Rel M0 H' σ' w)(hk:Keeps (cF M0 H σ) σ H.al w (cF M0 H' σ') σ' H'.al w):St n M0 H' σ' w e a :=
 ⟨hR,fun t=>(hS.env t).keep hk,hS.defers,hS.size⟩
theorem mB (hm : P.follows .mixedOrders = true) : ∀ (x : Code) (Q : Exit → dA → AHeap → Prop) (e : dA) (H : AHeap), mE P c x Q e H → mW c n x = true →
    ∀ (σ : Nat → Option Ow) (w : World) (a : Act), St n M0 H σ w e a → x.wp P (Nj n M0 H σ w Q) a w
  | .skip, Q, e, H, h, _, σ, w, a, hS => wp_skip ⟨e, H, σ, h, hS, .refl _ _, .refl _ _ _ _⟩
  | .region id ops dr, Q, e, H, h, hok, σ, w, a, hS => by
    simp only [mW, aM, bX, b7, cE] at hok
    unfold mE at h
    cases dr with
    | false =>
      simp only [dY, if_false] at h
      exact wp_region_list (E8 ops.toList e H _ h hok.1 σ w a hS fun a' w' hc => hc)
    | true =>
      simp only [if_true] at h
      exact L1 hm (hok.2.resolve_left (by simp)) hok.1 h hS fun a' w' hc => hc
  | .seq x y, Q, e, H, h, hok, σ, w, a, hS => by
    simp only [mW, aM] at hok
    unfold mE at h
    refine wp_seq (gI (mB hm x _ e H h hok.1 σ w a hS) fun ex a' w' hc => ?_)
    cases ex <;> first | exact hc | skip
    obtain ⟨e', H', σ', hq, hS', hst, hk⟩ := hc
    exact gI (mB hm y Q e' H' hq hok.2 σ' w' a' hS') fun ex a'' w'' hc' => Came.trans hst hk hc'
  | .cond x y z, Q, e, H, h, hok, σ, w, a, hS => by
    simp only [mW, aM] at hok
    unfold mE at h
    have hx := hS.envR.ev x
    cases hv : eB e x <;> simp only [hv] at h <;> try (exact h.elim)
    rename_i t
    rw [hv] at hx
    have hc : a.eval x = .bool t := by generalize a.eval x = v at hx; cases hx; rfl
    exact wp_cond_split hc (fun ht => mB hm y Q e H (h.1 ht) hok.1 σ w a hS) fun ht => mB hm z Q e H (h.2 ht) hok.2 σ w a hS
  | .block id b, Q, e, H, h, hok, σ, w, a, hS => by
    unfold mE at h
    refine wp_block (gI (mB hm b _ e H h hok σ w a hS) fun ex a' w' hc => ?_)
    cases ex <;> first | exact hc | skip
    rename_i id'
    by_cases hid : id' = id
    · subst hid
      show (if id' = id' then Nj n M0 H σ w Q .normal a' w' else _)
      rw [if_pos rfl]
      exact Came.mono hc fun e' H' h => by
        have h' : (if id' = id' then Q .normal e' H' else Q (.exit id') e' H') := h
        rw [if_pos rfl] at h'; exact h'
    · show (if id' = id then Nj n M0 H σ w Q .normal a' w' else Nj n M0 H σ w Q (.exit id') a' w')
      rw [if_neg hid]
      exact Came.mono hc fun e' H' h => by
        have h' : (if id' = id then Q .normal e' H' else Q (.exit id') e' H') := h
        rw [if_neg hid] at h'; exact h'
  | .loop b, Q, e, H, h, hok, σ, w, a, hS => by
    unfold mE at h
    obtain ⟨I, ⟨H1, hgh, k0, h0⟩, hI⟩ := h
    obtain ⟨σ1, g1, g2, g3⟩ := t7 hgh hS.rel
    have hS1 := hS.keeps g1 g3
    let J : Nat → Act → World → Prop := fun k a' w' => Came n M0 H σ w (I k) a' w'
    have hJ0 : J k0 a w := ⟨e, H1, σ1, h0, hS1, g2, g3⟩
    classical
    let μ : Act → World → Nat := fun a' w' => if hx : ∃ k, J k a' w' then Classical.choose (fD hx) else 0
    refine wp_loop (fun a' w' => ∃ k, J k a' w') μ ⟨k0, hJ0⟩ fun a' w' hx => ?_
    have hμ : μ a' w' = Classical.choose (fD hx) := by simp only [μ, dif_pos hx]
    obtain ⟨e', H', σ', hi, hS', hst, hk⟩ := (vC (fD hx)).1
    refine gI (mB hm b _ e' H' (hI _ e' H' hi) hok σ' w' a' hS') fun ex a'' w'' hc => ?_
    have hc' := Came.trans hst hk hc
    cases ex <;> first | exact hc' | skip
    obtain ⟨e2, H20, σ20, ⟨H2, hgh2, k', hlt, hk'⟩, hS2, hst2, hk2⟩ := hc'
    obtain ⟨σ2, j1, j2, j3⟩ := t7 hgh2 hS2.rel
    have rest := And.intro (hS2.keeps j1 j3) (And.intro (hst2.trans j2) (hk2.trans j3))
    have hx2 : ∃ k, J k a'' w'' := ⟨k', e2, H2, σ2, hk', rest⟩
    refine ⟨hx2, ?_⟩
    have : μ a'' w'' = Classical.choose (fD hx2) := by simp only [μ, dif_pos hx2]
    rw [this, hμ]
    refine Nat.lt_of_le_of_lt ?_ hlt
    rcases bN k' (Classical.choose (fD hx2)) with hlt' | hge
    · exact absurd ⟨e2, H2, σ2, hk', rest⟩ ((vC (fD hx2)).2 k' hlt')
    · exact hge
  | .exit id, Q, e, H, h, _, σ, w, a, hS => wp_exit ⟨e, H, σ, h, hS, .refl _ _, .refl _ _ _ _⟩
  | .ret, Q, e, H, h, _, σ, w, a, hS => wp_ret ⟨e, H, σ, h, hS, .refl _ _, .refl _ _ _ _⟩
  | .rangeFunc .., Q, e, H, h, _, _, _, _, _ => h.elim
  | .scope .., Q, e, H, h, _, _, _, _, _ => h.elim
  | .label .., Q, e, H, h, _, _, _, _, _ => h.elim
  | .goto .., Q, e, H, h, _, _, _, _, _ => h.elim
  | .refuse .., Q, e, H, h, _, _, _, _, _ => h.elim
end
end Go.Abs
end
section
namespace Go.Abs
def AQ (P:Program):List ResultVar→dA→AHeap→(List D→Prop)→Prop
 | [],_,_,K=>K []
 | .tmp t :: r,e,H,K=>AQ P r e H fun l=>K (e t :: l)
 | .cell a ty :: r,e,H,K=>(lQ P ty (e a) H).cond∧AQ P r e H fun l=>K ((lQ P ty (e a) H).val :: l)
def Dg:List D→D
 | [d]=>d
 | l=>.tup l
def Nz (P:Program)(rs:List ResultVar)(Q:D→AHeap→Prop):Exit→dA→AHeap→Prop
 | .normal,e,H=>AQ P rs e H fun l=>Q (Dg l) H
 | .ret,e,H=>AQ P rs e H fun l=>Q (Dg l) H
 | _,_,_=>False
def xN (args:List D):dA:=fun t=>args.getD t .junk
def Ba (tmps:Array Value):ResultVar→Sem Value
 | .tmp t=>Pure.pure (tmps.getD t undef)
 | .cell x t=>do loadVar t (← asAddr (tmps.getD x undef))
section
variable {P:Program} {M0:Nat→Prop} {H:AHeap} {σ:Nat→Option Ow} {w:World} {n:Nat} {e:dA} {a:Act}
theorem uG (hS : St n M0 H σ w e a) : ∀ (rs : List ResultVar) (K : List D → Prop), AQ P rs e H K →
    ∃ vs l, Sem.run P (rs.mapM (Ba a.tmps)) w = Result.ok vs w ∧ RepL (cF M0 H σ) σ H.al w vs l ∧ K l
  | [], K, h => ⟨[], [], by simp, ⟨rfl, fun j u d hu => by simp at hu⟩, h⟩
  | .tmp t :: rs, K, h => by
    obtain ⟨vs, l, h1, h2, h3⟩ := uG hS rs _ h
    refine ⟨a.tmps.getD t undef :: vs, e t :: l, by simp [List.mapM_cons, Ba, h1], ⟨by simp [h2.len], fun j u d hu hd => ?_⟩, h3⟩
    cases j with
    | zero => simp only [jS, aX] at hu hd; subst hu; subst hd; exact hS.env t
    | succ j => exact h2.rep j u d (by simpa using hu) (by simpa using hd)
  | .cell x t :: rs, K, h => by
    obtain ⟨vs, l, h1, h2, h3⟩ := uG hS rs _ h.2
    obtain ⟨_, _, v, hr, hv⟩ := J1 (P := P) hS.rel (hS.env x) h.1
    have hld : Sem.run P (Ba a.tmps (.cell x t)) w = .ok v w := by
      simp only [Ba]
      unfold Instr.loadAt at hr
      generalize a.tmps.getD x undef = q at hr ⊢
      cases q with
      | pointer p => cases p with
        | some ad => simpa [Instr.sureAddr, asAddr] using hr
        | none => simp [Instr.sureAddr, stuck] at hr
      | _ => simp [Instr.sureAddr, stuck] at hr
    refine ⟨v :: vs, _ :: l, by simp [List.mapM_cons, hld, h1], ⟨by simp [h2.len], fun j u d hu hd => ?_⟩, h3⟩
    cases j with
    | zero => simp only [jS, aX] at hu hd; subst hu; subst hd; exact hv
    | succ j => exact h2.rep j u d (by simpa using hu) (by simpa using hd)
theorem BS {fn : Func} {vs : List Value} {l : List D} (h : Sem.run P (fn.results.toList.mapM (Ba a.tmps)) w = .ok vs w) (hrep : RepL (cF M0 H σ) σ H.al w vs l) :
    ∃ v, (results fn a.tmps).run P w = .ok v w ∧ RepV (cF M0 H σ) σ H.al w v (Dg l) := by
  have hres : results fn a.tmps = (do let vs ← fn.results.mapM (Ba a.tmps); Pure.pure (if h : vs.size = 1 then vs[0] else .tuple vs)) := rfl
  rw [hres, Array.mapM_eq_mapM_toList]
  refine ⟨if h : vs.toArray.size = 1 then vs.toArray[0] else .tuple vs.toArray, by simp [h], ?_⟩
  by_cases h1 : vs.length = 1
  · match vs, h1, hrep with
    | [v], _, hrep =>
      match l, hrep with
      | [d], hrep => simpa [Dg] using hrep.rep 0 v d rfl rfl
      | [], hrep => have := hrep.len; simp at this
      | _ :: _ :: _, hrep => have := hrep.len; simp at this
  · have hsz : ¬ vs.toArray.size = 1 := by simpa using h1
    rw [dif_neg hsz]
    have hl : Dg l = .tup l := by
      match l, hrep with
      | [], _ => rfl
      | [d], hrep => have := hrep.len; simp at this; exact absurd this h1
      | _ :: _ :: _, _ => rfl
    rw [hl]
    exact .tup vs l hrep.len hrep.rep
theorem aI {f:FuncId}{fn:Func}{x:Code}{cfg:Cfg}{args:List D}{Q:D→AHeap→Prop}(hm:P.follows .mixedOrders=true)(hf:P.funcs[f]?=some fn)(hb:fn.body=some x)
  (hnm:(fn.name=="runtime.NumGoroutine")=false) (hlen:args.length≤fn.ntmps) (hok:mW cfg fn.ntmps x=true)
  (h:mE P cfg x (Nz P fn.results.toList Q) (xN args) H):ACalls P f args H Q:=by
 refine ⟨⟨fn,hf,hnm,by simp [hb]⟩,fun M0 σ w vals hR ha=>calls_of_wp hf hb ?_⟩
 have hS:St fn.ntmps M0 H σ w (xN args) { tmps:=vals.toArray++Array.replicate (fn.ntmps - vals.toArray.size) undef,defers:=[] }:=by
  refine ⟨hR,fun t=>?_,rfl,by simp [ha.len];omega⟩
  simp only [xN]
  by_cases ht:t<vals.length
  ·have h1:vals[t]?=some vals[t]:=aA ht
   have h2:args[t]?=some (args[t]'(by rw [← ha.len];exact ht)):=aA _
   have:=ha.rep t _ _ h1 h2
   rw [List.getD_eq_getElem?_getD,h2]
   simp only [aD,g5]
   rw [Array.getElem?_append_left (by simpa using ht)]
   simpa [h1] using this
  ·rw [List.getD_eq_getElem?_getD,bP (by rw [← ha.len];omega)]
   exact .junk _
 refine gI (mB hm x _ _ H h hok σ w _ hS) fun ex a' w' hc=>?_
 obtain ⟨e',H',σ',hq,hS',hst,hk⟩:=hc
 have fin:AQ P fn.results.toList e' H' (fun l=>Q (Dg l) H')→a'.defers=[]∧∃ v,(results fn a'.tmps).run P w'=.ok v w' ∧
   ∃ v2 d H2 σ2,Ending.returned v=.returned v2∧Rel M0 H2 σ2 w'∧RepV (cF M0 H2 σ2) σ2 H2.al w' v2 d∧Stp σ w σ2 w'∧Keeps (cF M0 H σ) σ H.al w (cF M0 H2 σ2) σ2 H2.al w'∧Q d H2:=by
  intro hq
  obtain ⟨vs,l,h1,h2,h3⟩:=uG hS' _ _ hq
  obtain ⟨v,hv1,hv2⟩:=BS (fn:=fn) h1 h2
  exact ⟨hS'.defers,v,hv1,v,_,H',σ',rfl,hS'.rel,hv2,hst,hk,h3⟩
 cases ex<;>first|exact fin hq|exact hq.elim
end
/-! ### pure contracts -/
theorem AT {l:List D}(h:∀ d∈l,d.cl=true):D.clL l=true:=by
 induction l with
 | nil=>rfl
 | cons a l ih=>simp [D.clL,h a (by simp),ih fun d hd=>h d (by simp [hd])]
def gS:Nat→Option Ow:=fun _=>none
def p7:Nat→Prop:=fun _=>False
def Pure (P:Program)(f:FuncId)(args:List D)(r:D):Prop :=
 Rg P f∧∀ (M:Nat→Prop) (w:World) (vals:List Value),(∀ b,M b→b<w.heap.size)→RepL M gS p7 w vals args →
  Calls P f vals.toArray w fun e w'=>∃ v,e=.returned v∧RepV M gS p7 w' v r∧RowKit.Below w.heap.size w w'
def Own (P:Program)(f:FuncId)(args:List D)(ty:TypeId)(sz:Nat)(es:List (List D)):Prop :=
 Rg P f∧∀ (M:Nat→Prop) (w:World) (vals:List Value),(∀ b,M b→b<w.heap.size)→RepL M gS p7 w vals args →
  Calls P f vals.toArray w fun e w'=>∃ v xs,e=.returned v∧w'.ownsRow w.heap.size ty sz v es.length xs∧(∀ u∈xs,u.oneCell'=true)∧RepL (fun b=>M b∨v.ownBlock=some b) gS p7 w' xs es.flatten∧D.clLL es=true∧(∀ c∈es,c.length=sz) ∧
   RowKit.Below w.heap.size w w'
def oF (H:AHeap):D→D
 | .tup vs=>.tup (vs.map (g6 H))
 | d=>g6 H d
def Bf:D→List Nat
 | .tup vs=>vs.flatMap dE
 | d=>dE d
section
variable {P:Program} {M0:Nat→Prop} {H:AHeap} {σ:Nat→Option Ow} {w:World}
theorem q7 {v:Value}{d:D}(hR:Rel M0 H σ w)(hx:RepV (cF M0 H σ) σ H.al w v d)(ids:List Nat)(hi:∀ i∈Bf d,i∈ids) :
  RepV (cF M0 (eV ids H) σ) σ (eV ids H).al w v (oF H d):=by
 cases d with
 | tup vs =>
  cases hx
  rename_i xs hl hr
  refine .tup xs _ (by simpa using hl) fun j u x hu hx=>?_
  rw [aR,bD] at hx
  obtain ⟨y,hy,rfl⟩:=hx
  exact kQ hR (hr j u y hu hy) ids fun i hii=>hi i (by simp only [Bf,bT];exact ⟨y,aJ hy,hii⟩)
 | _=>exact kQ hR hx ids hi
theorem C3 (M:Nat→Prop):cF M .emp gS=M:=by
 funext b
 exact propext ⟨fun h=>h.elim (fun h=>h) fun ⟨_,_,_,h,_⟩=>by simp [AHeap.emp] at h,.inl⟩
theorem C1 (M:Nat→Prop)(w:World)(hM:∀ b,M b→b<w.heap.size):Rel M .emp gS w :=
 ⟨fun _ _=>⟨rfl,rfl⟩,fun _ h=>h.elim,fun _ _ h=>by simp [AHeap.emp] at h,fun _ _ _ _ _ h=>by simp [gS] at h,fun _ _ _ h=>by simp [gS] at h,hM⟩
theorem wW {σ':Nat→Option Ow}{w':World}(h:Stp gS w σ' w'):RowKit.Below w.heap.size w w' :=
 ⟨h.os,h.tape,h.output,h.size,fun b hb=>h.old b hb fun _ _ h=>by simp [gS] at h⟩
theorem aN {f:FuncId}{args:List D}{r:D}(h:ACalls P f args .emp fun d H'=>oF H' d=r∧r.cl=true):Pure P f args r:=by
 refine ⟨h.1,fun M w vals hM ha=>(h.2 M gS w vals (C1 M w hM) (by rw [C3];exact ha)).mono fun e w' ⟨v,d,H',σ',he,hR,hv,hst,hk,hr,hcl⟩=>⟨v,he,?_,wW hst⟩⟩
 have h1:=q7 hR hv (Bf d) fun i hi=>hi
 rw [hr] at h1
 exact h1.closed (fun ad u hm hc=>⟨fun h=>hm (.inl h),hc⟩) hcl
theorem Ae {f:FuncId}{args:List D}{ty:TypeId}{sz:Nat}{es:List (List D)}
  (h:ACalls P f args .emp fun d H'=>∃ id k,d=.own id es.length∧H'.get id=some k∧k.es=es∧k.ty=ty∧k.sz=sz∧k.fz=false∧D.clLL es=true):Own P f args ty sz es:=by
 refine ⟨h.1,fun M w vals hM ha=>(h.2 M gS w vals (C1 M w hM) (by rw [C3];exact ha)).mono fun e w' ⟨v,d,H',σ',he,hR,hv,hst,hk,id,k,hd,hget,h1,h2,h3,hfz,hcl⟩=>?_⟩
 subst hd;subst h1;subst h2;subst h3
 obtain ⟨o,ho,l⟩:=hR.lies id k hget
 obtain ⟨xs,hrow,hx1,hrep⟩:=l.row
 cases hv
 rename_i _ _ hval
 rcases hval o ho with hlt|⟨_,rfl⟩
 ·have:=l.ver;omega
 ·refine ⟨o.val,xs,he,?_,hx1,⟨hrep.len,fun j u d hu hd=>(hrep.rep j u d hu hd).closed (fun ad u hm hc=>⟨fun h=>hm (h.elim .inl fun h=>.inr ⟨id,k,o,hget,hfz,ho,h⟩),hc⟩) ?_⟩,hcl,fun c hc=>(l.esz c hc).trans l.sz,wW hst⟩
  ·rw [← l.sz]
   refine ⟨hrow.1,?_⟩
   rcases hrow.2 with hn|⟨g,cap,cur,h1,_,h3⟩
   ·exact .inl hn
   ·refine .inr ⟨g,cap,cur,h1,?_,h3⟩
    rcases hst.new id o g ho (by simp [Ow.block,h1,Value.ownBlock]) with h|⟨_,o',h,_⟩
    ·exact h
    ·simp [gS] at h
  ·obtain ⟨c,hcm,hxm⟩:=iD.1 (aJ hd)
   exact iK (n3 hcl c hcm) d hxm
theorem B8 {M:Nat→Prop}{N:Nat→Prop}:Keeps M gS p7 w M σ N w:=⟨fun _ _ h k=>⟨h,k⟩,fun _ _ h=>h.elim,fun _ h=>h.elim⟩
theorem gK {M M':Nat→Prop}{N N':Nat→Prop}{σ':Nat→Option Ow}(hM:∀ b,¬ M b→¬ M' b){vs:List Value}{ds:List D}(h:RepL M σ N w vs ds)(hc:D.clL ds=true):RepL M' σ' N' w vs ds :=
 ⟨h.len,fun j u d hu hd=>(h.rep j u d hu hd).closed (fun ad u hm hc=>⟨hM _ hm,hc⟩) (iK hc d (aJ hd))⟩
theorem tX (hR:Rel M0 H σ w):∀ b,cF M0 H σ b→b<w.heap.size:=by
 rintro b (h|⟨i,k,o,_,_,ho,hb⟩)
 ·exact hR.m0 b h
 ·exact (hR.lt i o b ho hb).1
theorem pJ {f:FuncId}{args:List D}{r:D}{Q:D→AHeap→Prop}(hp:Pure P f args r)(hcl:D.clL args=true)(hQ:Q r H):ACalls P f args H Q:=by
 refine ⟨hp.1,fun M0 σ w vals hR ha=>(hp.2 (cF M0 H σ) w vals (tX hR) (gK (fun _ h=>h) ha hcl)).mono fun e w' ⟨v,he,hv,hb⟩=>?_⟩
 obtain ⟨h1,h2,h3⟩:=hR.grow hb.os hb.tape hb.output hb.size hb.block
 exact ⟨v,r,H,σ,he,h1,hv.keep B8,h2,h3,hQ⟩
theorem DG {M0:Nat→Prop}(hR:Rel M0 H σ w){vals:List Value}{args:List D}(ha:RepL (cF M0 H σ) σ H.al w vals args)(ids:List Nat)(hi:∀ i∈args.flatMap dE,i∈ids) :
  RepL (cF M0 (eV ids H) σ) σ (eV ids H).al w vals (args.map (g6 H)) :=
 ⟨by simpa using ha.len,fun j u d hu hd=>by
  rw [aR,bD] at hd
  obtain ⟨y,hy,rfl⟩:=hd
  exact kQ hR (ha.rep j u y hu hy) ids fun i hii=>hi i (bT.2 ⟨y,aJ hy,hii⟩)⟩
def D.flat1:D→Bool
 | .int .. | .bool _ | .str _ | .nil | .nilp | .nilf=>true
 | _=>false
def D.flat:D→Bool
 | .tup vs=>vs.all D.flat1
 | d=>d.flat1
theorem GS {M M':Nat→Prop}{N N':Nat→Prop}{σ σ':Nat→Option Ow}{w w':World}{v:Value}{d:D}(h:RepV M σ N w v d)(hf:d.flat1=true):RepV M' σ' N' w' v d:=by
 cases h<;>first|(simp [D.flat1] at hf;done)|constructor
theorem wI {M M':Nat→Prop}{N N':Nat→Prop}{σ σ':Nat→Option Ow}{w w':World}{v:Value}{d:D}(h:RepV M σ N w v d)(hf:d.flat=true):RepV M' σ' N' w' v d:=by
 cases d with
 | tup vs =>
  cases h
  rename_i xs hl hr
  simp only [D.flat,bX] at hf
  exact .tup xs vs hl fun j u x hu hx=>GS (hr j u x hu hx) (hf x (aJ hx))
 | _=>exact GS h hf
theorem uI {f:FuncId}{args:List D}{r:D}{Q:D→AHeap→Prop}(hp:Pure P f (args.map (g6 H)) r)(hcl:D.clL (args.map (g6 H))=true)(hf:r.flat=true)(hQ:Q r H):ACalls P f args H Q:=by
 refine ⟨hp.1,fun M0 σ w vals hR ha=>?_⟩
 obtain ⟨f1,f2,f3,f4⟩:=fF (args.flatMap dE) hR
 refine (hp.2 (cF M0 (eV (args.flatMap dE) H) σ) w vals (tX f1) (gK (fun _ h=>h) (DG hR ha _ fun i h=>h) hcl)).mono fun e w' ⟨v,he,hv,hb⟩=>?_
 obtain ⟨h1,h2,h3⟩:=hR.grow hb.os hb.tape hb.output hb.size hb.block
 exact ⟨v,r,H,σ,he,h1,wI hv hf,h2,h3,hQ⟩
theorem KR {f:FuncId}{args:List D}{ty:TypeId}{sz:Nat}{es:List (List D)}{Q:D→AHeap→Prop}(hp:Own P f args ty sz es)(hcl:D.clL args=true)
  (hQ:Q (.own H.next es.length) (H.push H.next ⟨ty,sz,es,false⟩)):ACalls P f args H Q:=by
 refine ⟨hp.1,fun M0 σ w vals hR ha=>(hp.2 (cF M0 H σ) w vals (tX hR) (gK (fun _ h=>h) ha hcl)).mono fun e w' ⟨v,xs,he,hrow,h1,hrep,hcll,hsz,hb⟩=>?_⟩
 have hrow0:w'.ownsRow 0 ty sz v es.length xs:=⟨hrow.1,hrow.2.imp (fun x=>x) fun ⟨g,cap,cur,a,b,c⟩=>⟨g,cap,cur,a,dF _,c⟩⟩
 have hbk:∀ b,v.ownBlock=some b→w.heap.size≤b:=fun b hb'=>by
  rcases hrow.2 with hn|⟨g,cap,cur,h1,h2,h3⟩
  ·rw [hn.1] at hb';simp [Value.ownBlock] at hb'
  ·rw [h1] at hb';simp only [Value.ownBlock,aX] at hb';omega
 have hG:∀ ad,¬ (cF M0 H σ ad∨v.ownBlock=some ad)→¬ cF M0 (H.push H.next ⟨ty,sz,es,false⟩) (fun i=>if i=H.next then some ⟨es.length,v,sz,ty⟩ else σ i) ad:=by
  intro ad hm h
  rcases h with h|⟨i,k',o',hk',hf,ho',hb'⟩
  ·exact hm (.inl (.inl h))
  ·by_cases hii:i=H.next
   ·simp only [hii,if_true,aX] at ho'
    subst ho'
    exact hm (.inr hb')
   ·simp only [hii,if_false] at ho'
    simp only [AHeap.push,hii,if_false] at hk'
    exact hm (.inl (.inr ⟨i,k',o',hk',hf,ho',hb'⟩))
 have hclF:D.clL es.flatten=true:=AT fun d hd=>by
  obtain ⟨c,hcm,hxm⟩:=iD.1 hd
  exact iK (n3 hcll c hcm) d hxm
 obtain ⟨p1,p2,p3⟩:=Rel.pushG hR H.next (fun h=>mC _ (hR.nxt _ h)) (w':=w') hb.os hb.tape hb.output hb.size hb.block ⟨ty,sz,es,false⟩ ⟨es.length,v,sz,ty⟩
  hbk rfl rfl rfl hsz xs hrow0 h1 (fun hk=>gK hG hrep hclF)
 exact ⟨v,_,_,_,he,p1,.own v _ _ (.inl rfl) (by rcases hrow.2 with ⟨hn,_⟩|⟨g,cap,cur,hn,_⟩<;>simp [hn,Value.oneCell']) (fun o ho=>by simp at ho;subst ho;exact .inr ⟨rfl,rfl⟩),p2,p3,hQ⟩
end
end Go.Abs
end
section
namespace Go.Abs
inductive SOut where
 | op (o:AOut)
 | call (f:FuncId) (args:List D)
 | gop (t:Bool) (g:Bool) (o:AOut)
 | gcall (t:Bool) (g:Bool) (f:FuncId) (args:List D)
 | bad
def Ht (c:Option (FuncId × List D))(o:AOut):SOut :=
 match c with
 | some (f,args)=>.call f args
 | none=>.op o
def Fo (gc:Option (Bool × Bool))(b:Bool)(g:Bool)(c:Option (FuncId × List D))(o:AOut):SOut :=
 match gc with
 | some (t,c')=>match c with
  | some (f,args)=>.gcall (t&&(c'==b)) g f args
  | none=>.gop (t&&(c'==b)) g o
 | none=>.bad
def lC (P:Program)(md:Nat→Bool)(nid:Nat)(ops:Array Oper)(e:dA)(o:Oper)(H:AHeap):SOut :=
 match o.guard with
 | none=>Ht (fU e o) (CU P nid md e o H)
 | some (j,b)=>Fo (gD ops e j) b (Ox e (gO o.op)) (fU (gE e o.op) o) (CU P nid md (gE e o.op) o H)
def fE (P:Program)(md:Nat→Bool)(ops:Array Oper)(rest:List Oper)(e:dA)(dst:Option Tmp)(K:dA→AHeap→Prop)(f:FuncId)(args:List D)(H:AHeap):Prop :=
 ACalls P f args H fun v H1=>lL P md ops rest (mJ e dst v) H1 K
def wG (P:Program)(md:Nat→Bool)(ops:Array Oper)(rest:List Oper)(e:dA)(dst:Option Tmp)(K:dA→AHeap→Prop)(t:Bool)(f:FuncId)(args:List D)(H:AHeap):Prop :=
 (∃ r S,(t=true→∀ H',fA S H' H→ACalls P f args H' fun v H1=>v=r∧H1=H')∧lL P md ops rest (mJ e dst (.opt t r)) H K) ∨
  ((t=true→ACalls P f args H fun v H1=>lL P md ops rest (mJ e dst (.opt true v)) H1 K)∧(t=false→∃ r,lL P md ops rest (mJ e dst (.opt false r)) H K))
def wM (P:Program)(md:Nat→Bool)(ops:Array Oper)(rest:List Oper)(e:dA)(dst:Option Tmp)(H:AHeap)(K:dA→AHeap→Prop):SOut→Prop
 | .op o=>o.cond∧(o.fact→lL P md ops rest (mJ e dst o.val) o.heap K)
 | .call f args=>fE P md ops rest e dst K f args H
 | .gop t g o=>(t=true→g=true)∧(t=true→o.cond∧o.heap=H)∧((t=true→o.fact)→lL P md ops rest (mJ e dst (.opt t o.val)) H K)
 | .gcall t g f args=>(t=true→g=true)∧wG P md ops rest e dst K t f args H
 | .bad=>False
theorem Ou (P : Program) (md : Nat → Bool) (ops : Array Oper) (o : Oper) (rest : List Oper) (e : dA) (H : AHeap) (K : dA → AHeap → Prop) :
    lL P md ops (o :: rest) e H K = wM P md ops rest e o.dst H K (lC P md H.next ops e o H) := by
  obtain ⟨dst, op, type, pos, after, guard⟩ := o
  cases guard with
  | none =>
    simp only [lL, mZ, lC]
    cases hc : fU e { dst := dst, op := op, type := type, pos := pos, after := after, guard := none } with
    | none => simp [Ht, wM]
    | some p => simp [Ht, wM, fE]
  | some p =>
    obtain ⟨j, b⟩ := p
    simp only [lL, mZ, lC]
    cases hg : gD ops e j with
    | none => simp [Fo, wM]
    | some gc =>
      obtain ⟨t, c'⟩ := gc
      simp only
      cases hc : fU (gE e op) { dst := dst, op := op, type := type, pos := pos, after := after, guard := some (j, b) } with
      | none => simp [Fo, wM]
      | some p => simp [Fo, wM, wG]
@[go_sem] theorem Tf (P:Program)(md:Nat→Bool)(ops:Array Oper)(e:dA)(H:AHeap)(K:dA→AHeap→Prop):lL P md ops [] e H K=K e H:=rfl
@[go_sem] theorem UU (P:Program)(md:Nat→Bool)(ops:Array Oper)(rest:List Oper)(e:dA)(dst:Option Tmp)(H H':AHeap)(K:dA→AHeap→Prop)(c f:Prop)(v:D) :
  wM P md ops rest e dst H K (.op ⟨c,f,v,H'⟩)=(c∧(f→lL P md ops rest (mJ e dst v) H' K)):=rfl
@[go_sem] theorem Sf (P:Program)(md:Nat→Bool)(ops:Array Oper)(rest:List Oper)(e:dA)(dst:Option Tmp)(H:AHeap)(K:dA→AHeap→Prop)(f:FuncId)(args:List D) :
  wM P md ops rest e dst H K (.call f args)=fE P md ops rest e dst K f args H:=rfl
@[go_sem] theorem Tb (P:Program)(md:Nat→Bool)(ops:Array Oper)(rest:List Oper)(e:dA)(dst:Option Tmp)(H H':AHeap)(K:dA→AHeap→Prop)(c f:Prop)(v:D)(t g:Bool) :
  wM P md ops rest e dst H K (.gop t g ⟨c,f,v,H'⟩)=((t=true→g=true)∧(t=true→c∧H'=H)∧((t=true→f)→lL P md ops rest (mJ e dst (.opt t v)) H K)):=rfl
@[go_sem] theorem Q6 (P:Program)(md:Nat→Bool)(ops:Array Oper)(rest:List Oper)(e:dA)(dst:Option Tmp)(H:AHeap)(K:dA→AHeap→Prop)(f:FuncId)(args:List D)(t g:Bool) :
  wM P md ops rest e dst H K (.gcall t g f args)=((t=true→g=true)∧wG P md ops rest e dst K t f args H):=rfl
@[go_sem] theorem SB (f:FuncId)(args:List D)(o:AOut):Ht (some (f,args)) o=.call f args:=rfl
@[go_sem] theorem SC (o:AOut):Ht none o=.op o:=rfl
@[go_sem] theorem Tl (e:dA)(d t:Nat)(v:D):mJ e (some d) v t=if t=d then v else e t:=rfl
@[go_sem] theorem Tm (e:dA)(v:D):mJ e none v=e:=rfl
def Qx:List (Nat × D)→dA
 | []=>fun _=>.junk
 | (t,d) :: l=>fun t'=>if t'=t then d else Qx l t'
@[go_sem] theorem UR (t:Nat):Qx [] t=.junk:=rfl
@[go_sem] theorem S8 (t:Nat)(d:D)(l:List (Nat × D))(t':Nat):Qx ((t,d) :: l) t'=if t'=t then d else Qx l t':=rfl
@[go_sem] theorem UQ (t:Nat):xN [] t=.junk:=by simp [xN]
@[go_sem] theorem S6 (d:D)(l:List D):xN (d :: l) 0=d:=rfl
@[go_sem] theorem S7 (d:D)(l:List D)(t:Nat):xN (d :: l) (t+1)=xN l t:=by simp [xN]
@[go_sem] theorem V5 (e:dA)(t:Nat):eB e (.tmp t)=e t:=rfl
@[go_sem] theorem UO (e:dA)(f:FuncId):eB e (.func f)=.fn f []:=rfl
@[go_sem] theorem V8 (e:dA)(k:IntKind)(n:Int):eB e (.const (.int k n))=.int k n:=rfl
@[go_sem] theorem UP (e:dA)(b:Bool):eB e (.const (.bool b))=.bool b:=rfl
@[go_sem] theorem V6 (e:dA)(b:ByteArray):eB e (.const (.string b))=.str b:=rfl
@[go_sem] theorem V7 (e:dA):eB e (.const (.slice none 0 0))=.nil:=rfl
@[go_sem] theorem UM (e:dA):eB e (.const (.pointer none))=.nilp:=rfl
@[go_sem] theorem UN (e:dA):eB e (.const .nilFunc)=.nilf:=rfl
@[go_sem] theorem RN:iC (.const (.slice none 0 0))=true:=rfl
@[go_sem] theorem RL (t:Nat):iC (.tmp t)=false:=rfl
@[go_sem] theorem RO (k:IntKind)(n:Int):iC (.const (.int k n))=false:=rfl
@[go_sem] theorem QY (b:Bool):iC (.const (.bool b))=false:=rfl
@[go_sem] theorem RM (b:ByteArray):iC (.const (.string b))=false:=rfl
@[go_sem] theorem QV:iC (.const (.pointer none))=false:=rfl
@[go_sem] theorem QW:iC (.const .nilFunc)=false:=rfl
@[go_sem] theorem QX (f:FuncId):iC (.func f)=false:=rfl
@[go_sem] theorem Ur (md:Nat→Bool)(t:Nat):Bh md (some t)=md t:=rfl
@[go_sem] theorem Us (md:Nat→Bool):Bh md none=false:=rfl
section
variable (P:Program) (md:Nat→Bool) (nid:Nat) (ops:Array Oper) (e:dA) (d:Option Tmp) (ty:TypeId) (p:String) (af:Array Edge) (H:AHeap)
@[go_sem] theorem WU (x:Operand):lC P md nid ops e ⟨d,.move x,ty,p,af,none⟩ H=.op (if iC x then BE P nid (Bh md d) ty H else ⟨True,True,eB e x,H⟩):=rfl
@[go_sem] theorem Ts (x:Operand):lC P md nid ops e ⟨d,.assign x,ty,p,af,none⟩ H=.op (if iC x then BE P nid (Bh md d) ty H else ⟨True,True,eB e x,H⟩):=rfl
@[go_sem] theorem WT (c a b:Operand):lC P md nid ops e ⟨d,.pick c a b,ty,p,af,none⟩ H=.op (wT (eB e c) (eB e a) (eB e b) H):=rfl
@[go_sem] theorem Vp (t:TypeId):lC P md nid ops e ⟨d,.alloc t,ty,p,af,none⟩ H=.op (uH P nid (Bh md d) t H):=rfl
@[go_sem] theorem XW (t:TypeId)(x:Operand):lC P md nid ops e ⟨d,.box t x,ty,p,af,none⟩ H=.op (Iw P nid (Bh md d) t (eB e x) H):=rfl
@[go_sem] theorem Vn (t:TypeId)(ps:Array (Nat × Operand)):lC P md nid ops e ⟨d,.build t ps,ty,p,af,none⟩ H=.op (qO P t (ps.toList.map fun p=>(p.1,eB e p.2)) H):=rfl
@[go_sem] theorem Wb (md:Nat→Bool)(H:AHeap)(d:D):Nf md H d=if md 1000001 then d else g6 H d:=rfl
@[go_sem] theorem Wa (md:Nat→Bool)(d:D):Il md d=if md 1000001 then [] else dE d:=rfl
@[go_sem] theorem P8 (t:TypeId)(n:Nat)(ps:Array (Nat × Operand)):lC P md nid ops e ⟨d,.buildSlice t n ps,ty,p,af,none⟩ H =
  .op (if md 1000001 then gM P nid (Bh md d) t n (ps.toList.map fun p=>(p.1,eB e p.2)) H else gM P nid (Bh md d) t n (ps.toList.map fun p=>(p.1,g6 H (eB e p.2))) (eV (ps.toList.flatMap fun p=>dE (eB e p.2)) H)):=by
 show SOut.op (gM P nid (Bh md d) t n (ps.toList.map fun p=>(p.1,Nf md H (eB e p.2))) (eV (ps.toList.flatMap fun p=>Il md (eB e p.2)) H))=_
 congr 1
 cases h:md 1000001
 ·simp [Nf,Il,h]
 ·simp only [Nf,Il,h,if_true]
  rw [show (ps.toList.flatMap fun _=>([]:List Nat))=[] by induction ps.toList with|nil=>rfl|cons a l ih=>simp];rfl
@[go_sem] theorem WV (t:TypeId)(x:Operand):lC P md nid ops e ⟨d,.load t x,ty,p,af,none⟩ H=.op (lQ P t (eB e x) H):=rfl
@[go_sem] theorem Vj (t:TypeId)(x y:Operand):lC P md nid ops e ⟨d,.store t x y,ty,p,af,none⟩ H =
  .op (if md 1000000 then kH P t (eB e x) (g6 H (eB e y)) (eV (dE (eB e y)) H) else kH P t (eB e x) (eB e y) H):=rfl
@[go_sem] theorem Rp (x:Operand):lC P md nid ops e ⟨d,.nilCheck x,ty,p,af,none⟩ H=.op (iI (eB e x) H):=rfl
@[go_sem] theorem Vo (b:BinOp)(t t':TypeId)(x y:Operand):lC P md nid ops e ⟨d,.binOp b t x y t',ty,p,af,none⟩ H=.op (pI (md 2000000) P t b (eB e x) (eB e y) H):=rfl
@[go_sem] theorem Ve (w:Bool)(P:Program)(t:TypeId)(x y:D)(H:AHeap):pI w P t .add x y H=E9 P t .add x y H:=by cases w<;>rfl
@[go_sem] theorem U7 (w:Bool)(P:Program)(t:TypeId)(x y:D)(H:AHeap):pI w P t .mul x y H=E9 P t .mul x y H:=by cases w<;>rfl
@[go_sem] theorem U4 (w:Bool)(P:Program)(t:TypeId)(x y:D)(H:AHeap):pI w P t .quo x y H=E9 P t .quo x y H:=by cases w<;>rfl
@[go_sem] theorem U3 (w:Bool)(P:Program)(t:TypeId)(x y:D)(H:AHeap):pI w P t .rem x y H=E9 P t .rem x y H:=by cases w<;>rfl
@[go_sem] theorem Vc (w:Bool)(P:Program)(t:TypeId)(x y:D)(H:AHeap):pI w P t .eql x y H=E9 P t .eql x y H:=by cases w<;>rfl
@[go_sem] theorem U6 (w:Bool)(P:Program)(t:TypeId)(x y:D)(H:AHeap):pI w P t .neq x y H=E9 P t .neq x y H:=by cases w<;>rfl
@[go_sem] theorem U8 (w:Bool)(P:Program)(t:TypeId)(x y:D)(H:AHeap):pI w P t .lss x y H=E9 P t .lss x y H:=by cases w<;>rfl
@[go_sem] theorem U9 (w:Bool)(P:Program)(t:TypeId)(x y:D)(H:AHeap):pI w P t .leq x y H=E9 P t .leq x y H:=by cases w<;>rfl
@[go_sem] theorem Va (w:Bool)(P:Program)(t:TypeId)(x y:D)(H:AHeap):pI w P t .gtr x y H=E9 P t .gtr x y H:=by cases w<;>rfl
@[go_sem] theorem Vb (w:Bool)(P:Program)(t:TypeId)(x y:D)(H:AHeap):pI w P t .geq x y H=E9 P t .geq x y H:=by cases w<;>rfl
@[go_sem] theorem Vd (w:Bool)(P:Program)(t:TypeId)(x y:D)(H:AHeap):pI w P t .and x y H=E9 P t .and x y H:=by cases w<;>rfl
@[go_sem] theorem U2 (w:Bool)(P:Program)(t:TypeId)(x y:D)(H:AHeap):pI w P t .shr x y H=E9 P t .shr x y H:=by cases w<;>rfl
@[go_sem] theorem U5 (P:Program)(t:TypeId)(op:BinOp)(x y:D)(H:AHeap):pI false P t op x y H=E9 P t op x y H:=by cases op<;>cases x<;>cases y<;>rfl
@[go_sem] theorem U1 (P:Program)(t:TypeId)(k k':IntKind)(a b:Int)(H:AHeap):pI true P t .sub (.int k a) (.int k' b) H=⟨k=k',True,.int k (k.wrap (a - b)),H⟩:=rfl
@[go_sem] theorem WS (u:UnOp)(t:TypeId)(x:Operand):lC P md nid ops e ⟨d,.unOp u t x,ty,p,af,none⟩ H=.op (PJ u (eB e x) H):=rfl
@[go_sem] theorem SE (s t:TypeId)(x:Operand):lC P md nid ops e ⟨d,.convert s t x,ty,p,af,none⟩ H=.op (k9 P s t (eB e x) H):=rfl
@[go_sem] theorem Rq (f:FuncId)(caps:Array Operand):lC P md nid ops e ⟨d,.makeFunc (.func f) #[] caps,ty,p,af,none⟩ H=.op ⟨True,True,.fn f (caps.toList.map (eB e)),H⟩:=rfl
@[go_sem] theorem QJ (t:TypeId)(l c:Operand):lC P md nid ops e ⟨d,.makeSlice t l c,ty,p,af,none⟩ H=.op (AS P nid t (eB e l) (eB e c) H):=rfl
@[go_sem] theorem Vk (t:TypeId)(x:Operand)(lo hi:Option Operand):lC P md nid ops e ⟨d,.slice t x lo hi none,ty,p,af,none⟩ H=.op (nZ P t (eB e x) (lo.map (eB e)) (hi.map (eB e)) H):=rfl
@[go_sem] theorem QL (t:TypeId)(x:Operand)(f:Nat):lC P md nid ops e ⟨d,.fieldAddr t x f,ty,p,af,none⟩ H=.op (gC P t (eB e x) f H):=rfl
@[go_sem] theorem QK (t:TypeId)(x i:Operand):lC P md nid ops e ⟨d,.indexAddr t x i,ty,p,af,none⟩ H=.op (gB P t (eB e x) (eB e i) H):=rfl
@[go_sem] theorem Vl (t:TypeId)(x i:Operand):lC P md nid ops e ⟨d,.index t x i,ty,p,af,none⟩ H=.op (qN P t (eB e x) (eB e i) H):=rfl
@[go_sem] theorem SD (x:Operand)(i:Nat):lC P md nid ops e ⟨d,.extract x i,ty,p,af,none⟩ H=.op (k8 (eB e x) i H):=rfl
@[go_sem] theorem SF (b:Builtin)(args:Array Operand)(ts:Array TypeId):lC P md nid ops e ⟨d,.call ⟨.builtin b,args,ts⟩,ty,p,af,none⟩ H=.op (tF P nid b (args.toList.map (eB e)) ts.toList H):=rfl
@[go_sem] theorem WW (f:FuncId)(args:Array Operand)(ts:Array TypeId):lC P md nid ops e ⟨d,.call ⟨.value (.func f),args,ts⟩,ty,p,af,none⟩ H=.call f (args.toList.map (eB e)):=by
 simp [lC,fU,eB,Ht]
end
@[go_sem] theorem Sq (P:Program)(md:Nat→Bool)(ops:Array Oper)(rest:List Oper)(e:dA)(H:AHeap)(K:dA→AHeap→Prop)(d:Option Tmp)(op:Op)(ty:TypeId)(p:String)(af:Array Edge)(g:Option (Nat × Bool)) :
  lL P md ops (⟨d,op,ty,p,af,g⟩ :: rest) e H K=wM P md ops rest e d H K (lC P md H.next ops e ⟨d,op,ty,p,af,g⟩ H):=Ou P md ops _ rest e H K
/-! ### code -/
section
variable (P:Program) (c:Cfg) (Q:Exit→dA→AHeap→Prop) (e:dA) (H:AHeap)
def uR (P:Program)(c:Cfg)(a b:Code)(Q:Exit→dA→AHeap→Prop)(e:dA)(H:AHeap):D→Prop
 | .bool t=>(t=true→mE P c a Q e H)∧(t=false→mE P c b Q e H)
 | _=>False
def yE (P:Program)(c:Cfg)(b:Code)(Q:Exit→dA→AHeap→Prop)(e:dA)(H:AHeap):Prop:=mE P c (.loop b) Q e H
@[go_sem] theorem We:mE P c .skip Q e H=Q .normal e H:=rfl
@[go_sem] theorem Tj (id:Nat)(l:List Oper):mE P c (.region id l.toArray false) Q e H=lL P c.own l.toArray l e H (Q .normal):=by
 simp [mE]
@[go_sem] theorem Wi (id:Nat)(l:List Oper):mE P c (.region id l.toArray true) Q e H=iX P c.own l.toArray (c.sp id) H.next 0 l [] e ⟨H.next+l.length,H.al,H.get⟩ (Q .normal):=by
 simp [mE]
@[go_sem] theorem XG (a b:Code):mE P c (.seq a b) Q e H=mE P c a (qX (mE P c b Q) Q) e H:=rfl
@[go_sem] theorem Wj (x:Operand)(a b:Code):mE P c (.cond x a b) Q e H=uR P c a b Q e H (eB e x):=rfl
@[go_sem] theorem Vg (id:Nat)(b:Code):mE P c (.block id b) Q e H=mE P c b (zD id Q) e H:=rfl
@[go_sem] theorem Wf (b:Code):mE P c (.loop b) Q e H=yE P c b Q e H:=rfl
@[go_sem] theorem Wg (id:Nat):mE P c (.exit id) Q e H=Q (.exit id) e H:=rfl
@[go_sem] theorem XH:mE P c .ret Q e H=Q .ret e H:=rfl
@[go_sem] theorem Sh (a b:Code):uR P c a b Q e H (.bool true)=mE P c a Q e H:=by simp [uR]
@[go_sem] theorem Q7 (a b:Code):uR P c a b Q e H (.bool false)=mE P c b Q e H:=by simp [uR]
@[go_sem] theorem P5 (n:dA→AHeap→Prop):qX n Q .normal e H=n e H:=rfl
@[go_sem] theorem Sv (n:dA→AHeap→Prop):qX n Q .ret e H=Q .ret e H:=rfl
@[go_sem] theorem Rk (n:dA→AHeap→Prop)(i:Nat):qX n Q (.exit i) e H=Q (.exit i) e H:=rfl
@[go_sem] theorem PW (i:Nat):zD i Q .normal e H=Q .normal e H:=rfl
@[go_sem] theorem Sl (i:Nat):zD i Q .ret e H=Q .ret e H:=rfl
@[go_sem] theorem KE (i j:Nat):zD i Q (.exit j) e H=if j=i then Q .normal e H else Q (.exit j) e H:=rfl
@[go_sem] theorem TW (rs:List ResultVar)(R:D→AHeap→Prop):Nz P rs R .ret e H=AQ P rs e H fun l=>R (Dg l) H:=rfl
@[go_sem] theorem QN (rs:List ResultVar)(R:D→AHeap→Prop):Nz P rs R .normal e H=AQ P rs e H fun l=>R (Dg l) H:=rfl
@[go_sem] theorem U0 (K:List D→Prop):AQ P [] e H K=K []:=rfl
@[go_sem] theorem UZ (t:Tmp)(r:List ResultVar)(K:List D→Prop):AQ P (.tmp t :: r) e H K=AQ P r e H fun l=>K (e t :: l):=rfl
@[go_sem] theorem Te (a:Tmp)(t:TypeId)(r:List ResultVar)(K:List D→Prop):AQ P (.cell a t :: r) e H K=((lQ P t (e a) H).cond∧AQ P r e H fun l=>K ((lQ P t (e a) H).val :: l)):=rfl
@[go_sem] theorem To (d:D):Dg [d]=d:=rfl
end
attribute [go_sem] if_true if_false dY Bool.true_eq_false eq_self true_and and_true forall_const true_implies false_implies iE f6 List.toList_toArray eM Option.map_none
 FX uZ dJ eN oB eK implies_true
attribute [go_sem] FV E9 lQ kH dM gC gB CW jC nA AS Iw uH qO gM nZ qN k9 wT r9 AR iI PJ k8 BE tF sA qK eV AOut.bad
 mU eQ D.cells yG BK.place PR ite_self
@[go_sem] theorem V2 (id:Nat):AHeap.emp.get id=none:=rfl
@[go_sem] theorem Uq:AHeap.emp.next=0:=rfl
@[go_sem] theorem UI (H:AHeap)(i j:Nat)(k:Blk):(H.push i k).get j=if j=i then some k else H.get j:=rfl
@[go_sem] theorem VZ (H:AHeap)(i j:Nat)(k:Blk):(H.put i k).get j=if j=i then some k else H.get j:=rfl
@[go_sem] theorem SX (H:AHeap)(i:Nat)(k:Blk):(H.push i k).next=if i<H.next then H.next else i+1:=rfl
@[go_sem] theorem Uo (H:AHeap)(i:Nat)(k:Blk):(H.put i k).next=H.next:=rfl
@[go_sem] theorem UJ (n:Nat)(al:Nat→Prop)(g:Nat→Option Blk)(j:Nat):(AHeap.mk n al g).get j=g j:=rfl
@[go_sem] theorem SY (n:Nat)(al:Nat→Prop)(g:Nat→Option Blk):(AHeap.mk n al g).next=n:=rfl
section
variable (H:AHeap)
@[go_sem] theorem TR (k:IntKind)(n:Int):eJ H (.int k n)=.int k n:=rfl
@[go_sem] theorem SS (b:Bool):eJ H (.bool b)=.bool b:=rfl
@[go_sem] theorem TO (b:ByteArray):eJ H (.str b)=.str b:=rfl
@[go_sem] theorem TQ:eJ H .nil=.nil:=rfl
@[go_sem] theorem SR (es:List (List D)):eJ H (.list es)=.list es:=rfl
@[go_sem] theorem TS (es:List D):eJ H (.adr es)=.adr es:=rfl
@[go_sem] theorem SP:eJ H .nilp=.nilp:=rfl
@[go_sem] theorem SQ:eJ H .nilf=.nilf:=rfl
@[go_sem] theorem Vs (f:FuncId)(l:List D):eJ H (.fn f l)=.fn f l:=rfl
@[go_sem] theorem TP (id n:Nat):eJ H (.own id n)=match H.get id with|some k=>if k.es.length=n then .list k.es else .own id n|none=>.own id n:=rfl
@[go_sem] theorem TN (id n lo hi:Nat):eJ H (.win id n lo hi)=match H.get id with|some k=>if k.es.length=n then .list ((k.es.take hi).drop lo) else .win id n lo hi|none=>.win id n lo hi:=rfl
@[go_sem] theorem TE (id n lo hi:Nat):g6 H (.win id n lo hi)=eJ H (.win id n lo hi):=rfl
@[go_sem] theorem Tv (id n lo hi:Nat):oF H (.win id n lo hi)=eJ H (.win id n lo hi):=rfl
@[go_sem] theorem TJ (k:IntKind)(n:Int):g6 H (.int k n)=.int k n:=rfl
@[go_sem] theorem SO (b:Bool):g6 H (.bool b)=.bool b:=rfl
@[go_sem] theorem TF (b:ByteArray):g6 H (.str b)=.str b:=rfl
@[go_sem] theorem TI:g6 H .nil=.nil:=rfl
@[go_sem] theorem SN (es:List (List D)):g6 H (.list es)=.list es:=rfl
@[go_sem] theorem TM (es:List D):g6 H (.adr es)=.adr es:=rfl
@[go_sem] theorem SL:g6 H .nilp=.nilp:=rfl
@[go_sem] theorem SM:g6 H .nilf=.nilf:=rfl
@[go_sem] theorem Vr (f:FuncId)(l:List D):g6 H (.fn f l)=.fn f l:=rfl
@[go_sem] theorem TL (l:List D):g6 H (.agg l)=.agg (l.map (eJ H)):=rfl
@[go_sem] theorem TH (id n:Nat):g6 H (.own id n)=eJ H (.own id n):=rfl
@[go_sem] theorem Tw (l:List D):oF H (.tup l)=.tup (l.map (g6 H)):=rfl
@[go_sem] theorem TB (k:IntKind)(n:Int):oF H (.int k n)=.int k n:=rfl
@[go_sem] theorem SK (b:Bool):oF H (.bool b)=.bool b:=rfl
@[go_sem] theorem Tx (b:ByteArray):oF H (.str b)=.str b:=rfl
@[go_sem] theorem TA:oF H .nil=.nil:=rfl
@[go_sem] theorem SJ (es:List (List D)):oF H (.list es)=.list es:=rfl
@[go_sem] theorem TD (es:List D):oF H (.adr es)=.adr es:=rfl
@[go_sem] theorem SH:oF H .nilp=.nilp:=rfl
@[go_sem] theorem SI:oF H .nilf=.nilf:=rfl
@[go_sem] theorem Vq (f:FuncId)(l:List D):oF H (.fn f l)=.fn f l:=rfl
@[go_sem] theorem TC (l:List D):oF H (.agg l)=.agg (l.map (eJ H)):=rfl
@[go_sem] theorem Ty (id n:Nat):oF H (.own id n)=eJ H (.own id n):=rfl
end
@[go_sem] theorem UE (k:IntKind)(n:Int):jL (.int k n)=[]:=rfl
@[go_sem] theorem S3 (b:Bool):jL (.bool b)=[]:=rfl
@[go_sem] theorem UB (b:ByteArray):jL (.str b)=[]:=rfl
@[go_sem] theorem UD:jL .nil=[]:=rfl
@[go_sem] theorem S2 (es:List (List D)):jL (.list es)=[]:=rfl
@[go_sem] theorem UF (es:List D):jL (.adr es)=[]:=rfl
@[go_sem] theorem S0:jL .nilp=[]:=rfl
@[go_sem] theorem S1:jL .nilf=[]:=rfl
@[go_sem] theorem VS (f:FuncId)(l:List D):jL (.fn f l)=[]:=rfl
@[go_sem] theorem UA (id n lo hi:Nat):jL (.win id n lo hi)=[id]:=rfl
@[go_sem] theorem Rv (id n lo hi:Nat):dE (.win id n lo hi)=[id]:=rfl
@[go_sem] theorem UC (id n:Nat):jL (.own id n)=[id]:=rfl
@[go_sem] theorem RA (k:IntKind)(n:Int):dE (.int k n)=[]:=rfl
@[go_sem] theorem QR (b:Bool):dE (.bool b)=[]:=rfl
@[go_sem] theorem Rw (b:ByteArray):dE (.str b)=[]:=rfl
@[go_sem] theorem Rz:dE .nil=[]:=rfl
@[go_sem] theorem QQ (es:List (List D)):dE (.list es)=[]:=rfl
@[go_sem] theorem RC (es:List D):dE (.adr es)=[]:=rfl
@[go_sem] theorem QO:dE .nilp=[]:=rfl
@[go_sem] theorem QP:dE .nilf=[]:=rfl
@[go_sem] theorem SV (f:FuncId)(l:List D):dE (.fn f l)=[]:=rfl
@[go_sem] theorem Ry (id n:Nat):dE (.own id n)=[id]:=rfl
@[go_sem] theorem RB (l:List D):dE (.agg l)=l.flatMap jL:=rfl
@[go_sem] theorem UK (H:AHeap)(id:Nat):H.frz id=match H.get id with|some k=>H.put id { k with fz:=true } | none=>H:=rfl
@[go_sem] theorem TY (H:AHeap)(id:Nat)(k k':Blk):(H.push id k).put id k'=H.push id k':=by
 unfold AHeap.push AHeap.put
 congr 1
 funext i
 by_cases h:i=id<;>simp [h]
@[go_sem] theorem Vu (H:AHeap)(id:Nat)(k k':Blk):(H.put id k).put id k'=H.put id k':=by
 unfold AHeap.put
 congr 1
 funext i
 by_cases h:i=id<;>simp [h]
section
variable {P:Program} {c:Cfg} {Q:Exit→dA→AHeap→Prop} {e:dA} {H:AHeap} {a b:Code}
theorem aP {t:Bool}(h1:t=true→mE P c a Q e H)(h2:t=false→mE P c b Q e H):uR P c a b Q e H (.bool t):=⟨h1,h2⟩
theorem fB {p:Prop}[Decidable p](h1:p→mE P c a Q e H)(h2:¬ p→mE P c b Q e H):uR P c a b Q e H (.bool (decide p)):=⟨fun h=>h1 (of_decide_eq_true h),fun h=>h2 (of_decide_eq_false h)⟩
end
attribute [irreducible] uR fE wG yE
end Go.Abs
end
section
namespace Go.Abs
section
variable {P:Program} {c:Cfg} {md:Nat→Bool}
theorem E7 {dr : Option Nat} {nid : Nat} {ops : Array Oper} {e : dA} {o : Oper} {H : AHeap} {K K' : D → AHeap → List Nat → Prop} (hk : ∀ v H F, K v H F → K' v H F) (h : mZ P md dr nid ops e o H K) : mZ P md dr nid ops e o H K' := by
  unfold mZ at h ⊢
  cases hg : o.guard with
  | none =>
    simp only [hg] at h ⊢
    cases hc : fU e o with
    | none => simp only [hc] at h ⊢; exact ⟨h.1, fun hf => hk _ _ _ (h.2 hf)⟩
    | some p =>
      obtain ⟨f, args⟩ := p
      simp only [hc] at h ⊢
      cases dr with
      | none => exact h.mono fun _ _ h => hk _ _ _ h
      | some m =>
        rcases h with ⟨r, S, h1, h2⟩ | ⟨hmd, r, S, u, q, hu, hq, h1, h2⟩
        · exact .inl ⟨r, S, h1, hk _ _ _ h2⟩
        · exact .inr ⟨hmd, r, S, u, q, hu, hq, h1, hk _ _ _ h2⟩
  | some p =>
    obtain ⟨j, b⟩ := p
    simp only [hg] at h ⊢
    cases hgd : gD ops e j with
    | none => simp only [hgd] at h
    | some gc =>
      obtain ⟨g, c'⟩ := gc
      simp only [hgd] at h ⊢
      refine ⟨h.1, ?_⟩
      have h2 := h.2
      cases hc : fU (gE e o.op) o with
      | none => simp only [hc] at h2 ⊢; exact ⟨h2.1, fun hf => hk _ _ _ (h2.2 hf)⟩
      | some p =>
        obtain ⟨f, args⟩ := p
        simp only [hc] at h2 ⊢
        cases dr with
        | some _ => obtain ⟨r, S, h3, h4⟩ := h2; exact ⟨r, S, h3, hk _ _ _ h4⟩
        | none =>
          rcases h2 with ⟨r, S, h3, h4⟩ | ⟨h3, h4⟩
          · exact .inl ⟨r, S, h3, hk _ _ _ h4⟩
          · exact .inr ⟨fun hq => (h3 hq).mono fun _ _ h => hk _ _ _ h, fun hq => (h4 hq).imp fun _ h => hk _ _ _ h⟩
theorem Hd {ops:Array Oper}{K K':dA→AHeap→Prop}(hk:∀ e H,K e H→K' e H):∀ (l:List Oper) (e:dA) (H:AHeap),lL P md ops l e H K→lL P md ops l e H K'
 | [],e,H,h=>hk _ _ h
 | o :: l,e,H,h=>by
  unfold lL at h ⊢
  exact E7 (fun v H' _ h=>Hd hk l _ _ h) h
theorem Fa {ops:Array Oper}{sp:List (Nat × Nat)}{n0:Nat}{K K':dA→AHeap→Prop}(hk:∀ e H,K e H→K' e H):∀ (l:List Oper) (i:Nat) (acc:List (Nat × List Nat)) (e:dA) (H:AHeap),
  iX P md ops sp n0 i l acc e H K→iX P md ops sp n0 i l acc e H K'
 | [],i,acc,e,H,h=>by unfold iX at h ⊢;exact hk _ _ h
 | o :: l,i,acc,e,H,h=>by
  unfold iX at h ⊢
  exact E7 (fun v H' _ h=>⟨h.1,Fa hk l _ _ _ _ h.2⟩) h
theorem tJ {n n':dA→AHeap→Prop}{Q Q':Exit→dA→AHeap→Prop}(hn:∀ e H,n e H→n' e H)(hq:∀ x e H,Q x e H→Q' x e H):∀ x e H,qX n Q x e H→qX n' Q' x e H:=by
 intro x e H h
 cases x<;>first|exact hn _ _ h|exact hq _ _ _ h
theorem KD {i:Nat}{Q Q':Exit→dA→AHeap→Prop}(hq:∀ x e H,Q x e H→Q' x e H):∀ x e H,zD i Q x e H→zD i Q' x e H:=by
 intro x e H h
 cases x<;>first|exact hq _ _ _ h|skip
 rename_i j
 rw [KE] at h ⊢
 split at h
 ·rename_i hj;rw [if_pos hj];exact hq _ _ _ h
 ·rename_i hj;rw [if_neg hj];exact hq _ _ _ h
theorem oR:∀ (x:Code) {Q Q':Exit→dA→AHeap→Prop} (hq:∀ x e H,Q x e H→Q' x e H) (e:dA) (H:AHeap),mE P c x Q e H→mE P c x Q' e H
 | .skip,Q,Q',hq,e,H,h=>hq _ _ _ h
 | .region id ops dr,Q,Q',hq,e,H,h=>by
  unfold mE at h ⊢
  cases dr with
  | false=>simp only [dY,if_false] at h ⊢;exact Hd (fun e H h=>hq _ _ _ h) _ _ _ h
  | true=>simp only [if_true] at h ⊢;exact Fa (fun e H h=>hq _ _ _ h) _ _ _ _ _ h
 | .seq a b,Q,Q',hq,e,H,h=>by
  unfold mE at h ⊢
  exact oR a (tJ (fun e H h=>oR b hq e H h) hq) e H h
 | .cond x a b,Q,Q',hq,e,H,h=>by
  unfold mE at h ⊢
  cases hv:eB e x<;>simp only [hv] at h ⊢<;>try (exact h.elim)
  exact ⟨fun ht=>oR a hq e H (h.1 ht),fun ht=>oR b hq e H (h.2 ht)⟩
 | .block id b,Q,Q',hq,e,H,h=>by
  unfold mE at h ⊢
  exact oR b (KD hq) e H h
 | .loop b,Q,Q',hq,e,H,h=>by
  unfold mE at h ⊢
  obtain ⟨I,h0,hI⟩:=h
  exact ⟨I,h0,fun k e' H' hi=>oR b (tJ (fun _ _ h=>h) hq) _ _ (hI k e' H' hi)⟩
 | .exit id,Q,Q',hq,e,H,h=>hq _ _ _ h
 | .ret,Q,Q',hq,e,H,h=>hq _ _ _ h
 | .rangeFunc ..,Q,Q',hq,e,H,h=>h.elim
 | .scope ..,Q,Q',hq,e,H,h=>h.elim
 | .label ..,Q,Q',hq,e,H,h=>h.elim
 | .goto ..,Q,Q',hq,e,H,h=>h.elim
 | .refuse ..,Q,Q',hq,e,H,h=>h.elim
theorem eX {b:Code}{Q:Exit→dA→AHeap→Prop}{e:dA}{H:AHeap}{ι:Type}(I:ι→dA→AHeap→Prop)(μ:ι→Nat)(x0:ι)(h0:I x0 e H)
  (hs:∀ x e H,I x e H→mE P c b (qX (fun e' H'=>∃ x',μ x'<μ x∧I x' e' H') Q) e H):yE P c b Q e H:=by
 unfold yE mE
 refine ⟨fun k e H=>∃ x,μ x=k∧I x e H,⟨H,.refl H,_,x0,rfl,h0⟩,fun k e' H' ⟨x,hk,hx⟩=>oR b (tJ (fun e'' H'' ⟨x',hlt,hx'⟩=>⟨H'',.refl _,_,hk ▸ hlt,x',rfl,hx'⟩) fun _ _ _ h=>h) _ _ (hs x e' H' hx)⟩
theorem Am {b:Code}{Q:Exit→dA→AHeap→Prop}{e:dA}{H H':AHeap}(hg:Ghosts H H'){ι:Type}(I:ι→dA→AHeap→Prop)(μ:ι→Nat)(x0:ι)(h0:I x0 e H')
  (hs:∀ x e H,I x e H→mE P c b (qX (fun e' H'=>∃ H3,Ghosts H' H3∧∃ x',μ x'<μ x∧I x' e' H3) Q) e H):yE P c b Q e H:=by
 unfold yE mE
 refine ⟨fun k e H=>∃ x,μ x=k∧I x e H,⟨H',hg,_,x0,rfl,h0⟩,fun k e' H' ⟨x,hk,hx⟩=>oR b (tJ (fun e'' H'' ⟨H3,hg3,x',hlt,hx'⟩=>⟨H3,hg3,_,hk ▸ hlt,x',rfl,hx'⟩) fun _ _ _ h=>h) _ _ (hs x e' H' hx)⟩
theorem aB {ops:Array Oper}{rest:List Oper}{e:dA}{dst:Option Tmp}{K:dA→AHeap→Prop}{f:FuncId}{args:List D}{H:AHeap}{r:D}(hp:Pure P f args r)(hcl:D.clL args=true)
  (h:lL P md ops rest (mJ e dst r) H K):fE P md ops rest e dst K f args H:=by unfold fE;exact pJ hp hcl h
theorem c9 {ops:Array Oper}{rest:List Oper}{e:dA}{dst:Option Tmp}{K:dA→AHeap→Prop}{f:FuncId}{args args':List D}{H:AHeap}{r:D}(hp:Pure P f args' r)(ha:args.map (g6 H)=args')(hcl:D.clL args'=true)(hf:r.flat=true)
  (h:lL P md ops rest (mJ e dst r) H K):fE P md ops rest e dst K f args H:=by subst ha;unfold fE;exact uI hp hcl hf h
theorem l4 {ops:Array Oper}{rest:List Oper}{e:dA}{dst:Option Tmp}{K:dA→AHeap→Prop}{f:FuncId}{args:List D}{H:AHeap}{ty:TypeId}{sz:Nat}{es:List (List D)}(hp:Own P f args ty sz es)(hcl:D.clL args=true)
  (h:lL P md ops rest (mJ e dst (.own H.next es.length)) (H.push H.next ⟨ty,sz,es,false⟩) K):fE P md ops rest e dst K f args H:=by unfold fE;exact KR hp hcl h
end
end Go.Abs
end
