/- The abstraction layer, part S: whole bodies, functions, cont -/
import Derived.Test.YtjfaalokjnmdoaaGreatZcAD
set_option linter.unusedVariables false
set_option linter.unusedSimpArgs false
section
namespace Go.Abs
abbrev cX:=Nat→D
structure Cfg where
 own:Nat→Bool
 sp:Nat→List (Nat × Nat)
def Ge (H:AHeap)(id i off:Nat)(ty sz:Nat):AHeap :=
 match H.get id with
 | some k=>(H.put id { k with es:=k.es.set i ((k.es[i]?.getD []).set off (.own H.next 0)) }).push H.next ⟨ty,sz,[],false⟩
 | none=>H
def AHeap.drop (H:AHeap)(id:Nat):AHeap:=⟨H.next,H.al,fun i=>if i=id then none else H.get i⟩
def Au (H:AHeap)(id i off q hi:Nat):AHeap :=
 match H.get id,H.get q with
 | some k,some kq=>(((H.drop q).push H.next ⟨kq.ty,kq.sz,kq.es.take hi,false⟩).put id { k with es:=k.es.set i ((k.es[i]?.getD []).set off (.own H.next hi)) })
 | _,_=>H
inductive Ghosts:AHeap→AHeap→Prop
 | refl (H:AHeap):Ghosts H H
 | trunc {H H1:AHeap} (h:Ghosts H H1) (id i off q hi:Nat) (k kq:Blk) (c:List D) (hk:H1.get id=some k) (hf:k.fz=false) (hc:k.es[i]?=some c) (hq:H1.get q=some kq) (hn:c[off]?=some (.win q kq.es.length 0 hi)) (hqf:kq.fz=false) (hne:id≠q):Ghosts H (Au H1 id i off q hi)
 | step {H H1:AHeap} (h:Ghosts H H1) (id i off ty sz:Nat) (k:Blk) (c:List D) (hk:H1.get id=some k) (hf:k.fz=false) (hc:k.es[i]?=some c) (hn:c[off]?=some .nil):Ghosts H (Ge H1 id i off ty sz)
def rH (next:cX→AHeap→Prop)(Q:Exit→cX→AHeap→Prop):Exit→cX→AHeap→Prop
 | .normal,e,H=>next e H
 | ex,e,H=>Q ex e H
def AH (id:Nat)(Q:Exit→cX→AHeap→Prop):Exit→cX→AHeap→Prop
 | .exit id',e,H=>if id'=id then Q .normal e H else Q (.exit id') e H
 | ex,e,H=>Q ex e H
def mN (P:Program)(c:Cfg):Code→(Exit→cX→AHeap→Prop)→cX→AHeap→Prop
 | .skip,Q,e,H=>Q .normal e H
 | .region id ops dr,Q,e,H =>
  if dr then jQ P c.own ops (c.sp id) H.next 0 ops.toList [] e { H with next:=H.next+ops.size } (Q .normal)
  else lQ P c.own ops ops.toList e H (Q .normal)
 | .seq a b,Q,e,H=>mN P c a (rH (mN P c b Q) Q) e H
 | .cond x a b,Q,e,H=>match dZ e x with
  | .bool t=>(t=true→mN P c a Q e H)∧(t=false→mN P c b Q e H)
  | _=>False
 | .block id b,Q,e,H=>mN P c b (AH id Q) e H
 | .loop b,Q,e,H=>∃ I:Nat→cX→AHeap→Prop,(∃ H',Ghosts H H'∧∃ k,I k e H')∧∀ k e' H',I k e' H'→mN P c b (rH (fun e'' H''=>∃ H3,Ghosts H'' H3∧∃ k',k'<k∧I k' e'' H3) Q) e' H'
 | .exit id,Q,e,H=>Q (.exit id) e H
 | .ret,Q,e,H=>Q .ret e H
 | _,_,_,_=>False
def nD (c:Cfg)(n:Nat):Code→Bool
 | .region id ops dr=>(ops.toList.all fun o=>oY n o.dst)&&(!dr||uN c.own ops (c.sp id))
 | .seq a b=>nD c n a&&nD c n b
 | .cond _ a b=>nD c n a&&nD c n b
 | .block _ b=>nD c n b
 | .loop b=>nD c n b
 | _=>true
section
variable {P:Program} {c:Cfg} {n:Nat} {M0:Nat→Prop}
theorem gH {x:Code}{Q Q':Exit→Act→World→Prop}{a:Act}{w:World}(h:x.wp P Q a w)(hq:∀ e a w,Q e a w→Q' e a w):x.wp P Q' a w:=wp_mono h hq
theorem e8 {p:Nat→Prop}(h:∃ k,p k):∃ k,p k∧∀ j,j<k→¬ p j:=by
 obtain ⟨k,hk⟩:=h
 induction k using Nat.strongRecOn with
 | _ k ih =>
  by_cases hj:∃ j,j<k∧p j
  ·obtain ⟨j,hlt,hp⟩:=hj
   exact ih j hlt hp
  ·exact ⟨k,hk,fun j hlt hp=>hj ⟨j,hlt,hp⟩⟩
def PJ (n:Nat)(M0:Nat→Prop)(H0:AHeap)(σ0:Nat→Option Ow)(w0:World)(Q:Exit→cX→AHeap→Prop)(ex:Exit)(a:Act)(w:World):Prop:=Came n M0 H0 σ0 w0 (Q ex) a w
theorem u9 {sz:Nat}(d:D)(off:Nat)(c:List D):∀ (es:List (List D)) (i:Nat),(∀ c∈es,c.length=sz)→es[i]?=some c→off<sz→(es.set i (c.set off d)).flatten=es.flatten.set (i * sz+off) d
 | [],i,_,h,_=>by simp at h
 | a :: es,0,hl,h,ho=>by
  simp at h;subst h
  have:=hl a (by simp)
  simp only [sZ,dS,Nat.zero_mul,dU]
  rw [List.set_append_left _ _ (by omega)]
 | a :: es,i+1,hl,h,ho=>by
  have ha:=hl a (by simp)
  simp at h
  have ih:=u9 d off c es i (fun c hc=>hl c (by simp [hc])) h ho
  simp only [Dc,dS,ih]
  rw [List.set_append_right _ _ (by rw [Nat.add_mul];omega)]
  congr 2
  rw [ha,Nat.add_mul];omega
theorem Mi {H:AHeap}{σ:Nat→Option Ow}{w:World}(hR:Rel M0 H σ w){id i off ty sz:Nat}{k:Blk}{c0:List D}(hk:H.get id=some k)(hf:k.fz=false)(hc:k.es[i]?=some c0)(hn:c0[off]?=some .nil) :
  ∃ σ',Rel M0 (Ge H id i off ty sz) σ' w∧Stp σ w σ' w∧Keeps (cR M0 H σ) σ H.al w (cR M0 (Ge H id i off ty sz) σ') σ' (Ge H id i off ty sz).al w:=by
 have hal:¬ H.al H.next:=fun h=>mK _ (hR.nxt _ h)
 have hid:H.al id:=bD fun hn=>by rw [(hR.top id hn).2] at hk;cases hk
 have hne:id≠H.next:=fun h=>hal (h ▸ hid)
 obtain ⟨p1,p2,p3⟩:=Rel.push hR H.next hal (w':=w) rfl rfl rfl (aY _) (fun _ _=>rfl) ⟨ty,sz,[],false⟩ ⟨0,.slice none 0 0,sz,ty⟩ (fun b hb=>by simp [Ow.block,Value.ownBlock] at hb) rfl rfl rfl (fun c hc=>by simp at hc) []
  ⟨by simp,.inl ⟨rfl,rfl⟩⟩ (by simp) ⟨rfl,fun j u d hu=>by simp at hu⟩
 obtain ⟨o,ho,l⟩:=hR.lies id k hk
 obtain ⟨xs,hrow,hx1,hrep⟩:=l.row
 have hk1:(H.push H.next ⟨ty,sz,[],false⟩).get id=some k:=by simp [AHeap.push,hne,hk]
 have ho1:(fun i=>if i=H.next then some (⟨0,.slice none 0 0,sz,ty⟩:Ow) else σ i) id=some o:=by simp [hne,ho]
 have hlen0:=l.esz c0 (aH hc)
 have hoff:off<o.esz:=by rw [← hlen0];exact (aL.1 hn).1
 have hesz':∀ c∈k.es.set i (c0.set off (.own H.next 0)),c.length=o.esz:=fun c hc'=>by
  rcases lH hc' with h|h
  ·exact l.esz c h
  ·subst h;simp [hlen0]
 have hfl:=u9 (D.own H.next 0) off c0 k.es i l.esz hc hoff
 obtain ⟨q1,q2,q3⟩:=Rel.put p1 hk1 hf ho1 { k with es:=k.es.set i (c0.set off (.own H.next 0)) } o ⟨rfl,rfl,rfl,aY _,fun _ _ _=>rfl⟩ (fun b hb=>.inl hb) (.inl rfl) (by simp [l.ver]) l.ty l.sz hesz' xs (by simpa using hrow) hx1 (by
   have hrep':=hrep.keep p3
   simp only
   rw [hfl]
   refine ⟨by simpa using hrep'.len,fun j u d hu hd=>?_⟩
   rw [cO] at hd
   split at hd
   ·rename_i hj
    split at hd
    ·cases hd
     have hold:k.es.flatten[j]?=some .nil:=by
      rw [← hj,k9 k.es i c0 l.esz hc off hoff];exact hn
     have hv:=hrep'.rep j u _ hu hold
     cases hv
     exact .own _ _ _ (.inl rfl) rfl fun o' ho'=>by simp at ho';subst ho';exact .inr ⟨rfl,rfl⟩
    ·cases hd
   ·exact hrep'.rep j u d hu hd)
 have hg:Ge H id i off ty sz=(H.push H.next ⟨ty,sz,[],false⟩).put id { k with es:=k.es.set i (c0.set off (.own H.next 0)) }:=by
  simp only [Ge,hk,hc,aD]
  unfold AHeap.push AHeap.put
  congr 1
  funext j
  by_cases h1:j=H.next
  ·simp [h1,Ne.symm hne]
  ·simp [h1]
 rw [hg]
 exact ⟨_,q1,p2.trans q2,p3.trans q3⟩
theorem Ce {sz:Nat}:∀ (es:List (List D)) (n:Nat),(∀ c∈es,c.length=sz)→(es.take n).flatten=es.flatten.take (n * sz)
 | [],n,_=>by simp
 | a :: es,0,_=>by simp
 | a :: es,n+1,h=>by
  have ha:=h a (by simp)
  rw [rC,dS,dS,Ce es n fun c hc=>h c (by simp [hc]),Nat.add_mul,Nat.one_mul,Nat.add_comm,← ha,List.take_length_add_append]
theorem PQ {H:AHeap}{σ:Nat→Option Ow}{w:World}(hR:Rel M0 H σ w){q hi n:Nat}{kq:Blk}{oq:Ow}(hq:H.get q=some kq)(hqf:kq.fz=false)(hoq:σ q=some oq)(hn:¬ H.al n){v:Value}(hh:hi≤kq.es.length)(hv:Sp oq v kq.es.length 0 hi) :
  let σ':Nat→Option Ow:=fun i=>if i=n then some ⟨hi,v,oq.esz,oq.ty⟩ else if i=q then none else σ i
  Rel M0 ((H.drop q).push n ⟨kq.ty,kq.sz,kq.es.take hi,false⟩) σ' w∧Stp σ w σ' w∧Keeps (cR M0 H σ) σ H.al w (cR M0 ((H.drop q).push n ⟨kq.ty,kq.sz,kq.es.take hi,false⟩) σ') σ' ((H.drop q).push n ⟨kq.ty,kq.sz,kq.es.take hi,false⟩).al w:=by
 intro σ'
 have hqal:H.al q:=bD fun h=>by rw [(hR.top q h).1] at hoq;cases hoq
 have hqn:q≠n:=fun e=>hn (e ▸ hqal)
 have hblk:∀ b,v.ownBlock=some b→oq.block=some b:=fun b hb=>by
  rcases hv with ⟨_,rfl,_⟩|⟨b',cap,h1,h2,rfl⟩
  ·simp [Value.ownBlock] at hb
  ·simp only [Value.ownBlock] at hb
   simp only [Ow.block,h1,Value.ownBlock]
   rw [← hb];split<;>rfl
 have hmut:∀ b,cR M0 ((H.drop q).push n ⟨kq.ty,kq.sz,kq.es.take hi,false⟩) σ' b→cR M0 H σ b:=by
  rintro b (hm|⟨i,k',o',hk',hf,ho',hb'⟩)
  ·exact .inl hm
  ·by_cases h1:i=n
   ·simp only [σ',h1,if_true,bC] at ho'
    subst ho'
    exact .inr ⟨q,kq,oq,hq,hqf,hoq,hblk b hb'⟩
   ·by_cases h2:i=q
    ·simp only [σ',h1,h2,if_false,if_true,hqn] at ho';cases ho'
    ·simp only [σ',h1,h2,if_false] at ho'
     simp only [AHeap.push,AHeap.drop,h1,h2,if_false] at hk'
     exact .inr ⟨i,k',o',hk',hf,ho',hb'⟩
 have hkeep:Keeps (cR M0 H σ) σ H.al w (cR M0 ((H.drop q).push n ⟨kq.ty,kq.sz,kq.es.take hi,false⟩) σ') σ' ((H.drop q).push n ⟨kq.ty,kq.sz,kq.es.take hi,false⟩).al w:=by
  refine ⟨fun ad u hm hu=>⟨fun h=>hm (hmut _ h),hu⟩,fun i o' hi' ho'=>?_,fun i hi'=>.inr hi'⟩
  have h1:i≠n:=fun e=>hn (e ▸ hi')
  by_cases h2:i=q
  ·simp only [σ',h2,if_true,hqn,if_false] at ho';cases ho'
  ·simp only [σ',h1,h2,if_false] at ho'
   exact ⟨o',ho',.inl rfl⟩
 have hold:∀ {i o'},i≠n→σ' i=some o'→i≠q∧σ i=some o':=fun {i o'} h1 ho'=>by
  by_cases h2:i=q
  ·simp only [σ',h2,if_true,hqn,if_false] at ho';cases ho'
  ·simp only [σ',h1,h2,if_false] at ho';exact ⟨h2,ho'⟩
 obtain ⟨o2,ho2,l⟩:=hR.lies q kq hq
 rw [hoq] at ho2;cases ho2
 obtain ⟨xs,hrow,hx1,hrep⟩:=l.row
 refine ⟨⟨fun i hi'=>?_,fun i hi'=>?_,fun i k' hk'=>?_,fun i j oi oj b hi' hj' hbi hbj=>?_,fun i oi b hi' hbi=>?_,hR.m0⟩,⟨rfl,rfl,rfl,aY _,fun _ _ _=>rfl,fun i o' b ho' hb'=>?_⟩,hkeep⟩
 ·have hi2:¬ (i=n∨H.al i):=hi'
  have h1:i≠n:=fun e=>hi2 (.inl e)
  have h2:i≠q:=fun e=>hi2 (.inr (e ▸ hqal))
  simp only [σ',AHeap.push,AHeap.drop,h1,h2,if_false]
  exact hR.top i fun e=>hi2 (.inr e)
 ·have hi2:i=n∨H.al i:=hi'
  have he:((H.drop q).push n ⟨kq.ty,kq.sz,kq.es.take hi,false⟩).next=if n<H.next then H.next else n+1:=rfl
  rw [he]
  rcases hi2 with rfl|hi2
  ·by_cases h:i<H.next
   ·rw [if_pos h];exact h
   ·rw [if_neg h];omega
  ·have:=hR.nxt i hi2
   by_cases h:n<H.next
   ·rw [if_pos h];exact this
   ·rw [if_neg h];omega
 ·by_cases h1:i=n
  ·simp only [AHeap.push,h1,if_true,bC] at hk'
   subst hk'
   refine ⟨⟨hi,v,oq.esz,oq.ty⟩,by simp [σ',h1],by simp;omega,l.ty,l.sz,fun c hc=>l.esz c (bW hc),xs.take (hi * oq.esz),⟨?_,?_⟩,fun u hu=>hx1 u (bW hu),?_⟩
   ·have:=hrow.1
    have h2:hi * oq.esz≤kq.es.length * oq.esz:=eD _ hh
    simp only [bH]
    rw [Nat.min_eq_left hh,Nat.min_eq_left (by omega)]
   ·have hm:(kq.es.take hi).length=hi:=by simp;omega
    simp only [hm]
    rcases hv with ⟨h1,h2,h3⟩|⟨b',cap,h1,h2,h3⟩
    ·exact .inl ⟨h2,h3⟩
    ·rcases hrow.2 with ⟨hn0,_⟩|⟨g,cap',cur,e1,e2,e3,e4,e5,e6,e7⟩
     ·rw [h1] at hn0;cases hn0
     ·rw [h1] at e1;cases e1
      refine .inr ⟨b',cap,cur,?_,d8 _,e3,by omega,e5,e6,?_⟩
      ·rw [h3];simp
      ·rw [← e7,List.take_take,Nat.min_eq_left (eD _ hh)]
   ·have hr:=hrep.keep hkeep
    refine ⟨?_,fun j u d hu hd=>?_⟩
    ·simp only
     rw [Ce kq.es hi l.esz]
     simp [hr.len]
    ·simp only at hd
     rw [Ce kq.es hi l.esz,bU] at hd
     rw [bU] at hu
     split at hd
     ·rename_i hj;rw [if_pos hj] at hu;exact hr.rep j u d hu hd
     ·cases hd
  ·by_cases h2:i=q
   ·simp only [AHeap.push,AHeap.drop,h1,h2,if_false,if_true,hqn] at hk';cases hk'
   ·simp only [AHeap.push,AHeap.drop,h1,h2,if_false] at hk'
    obtain ⟨o',ho',l'⟩:=hR.lies i k' hk'
    obtain ⟨xs',a1,a2,a3⟩:=l'.row
    exact ⟨o',by simp [σ',h1,h2,ho'],l'.ver,l'.ty,l'.sz,l'.esz,xs',a1,a2,a3.keep hkeep⟩
 ·by_cases h1:i=n<;>by_cases h2:j=n
  ·rw [h1,h2]
  ·simp only [σ',h1,if_true,bC] at hi'
   subst hi'
   obtain ⟨h3,h4⟩:=hold h2 hj'
   exact absurd (hR.inj j q oj oq b h4 hoq hbj (hblk b hbi)) h3
  ·simp only [σ',h2,if_true,bC] at hj'
   subst hj'
   obtain ⟨h3,h4⟩:=hold h1 hi'
   exact absurd (hR.inj i q oi oq b h4 hoq hbi (hblk b hbj)) h3
  ·exact hR.inj i j oi oj b (hold h1 hi').2 (hold h2 hj').2 hbi hbj
 ·by_cases h1:i=n
  ·simp only [σ',h1,if_true,bC] at hi'
   subst hi'
   exact hR.lt q oq b hoq (hblk b hbi)
  ·exact hR.lt i oi b (hold h1 hi').2 hbi
 ·by_cases h1:i=n
  ·simp only [σ',h1,if_true,bC] at ho'
   subst ho'
   exact .inr ⟨q,oq,hoq,hblk b hb'⟩
  ·exact .inr ⟨i,o',(hold h1 ho').2,hb'⟩
theorem JV {H:AHeap}{σ:Nat→Option Ow}{w:World}(hR:Rel M0 H σ w){id i off q hi:Nat}{k kq:Blk}{c0:List D}(hk:H.get id=some k)(hf:k.fz=false)(hc:k.es[i]?=some c0)(hq:H.get q=some kq)
  (hn:c0[off]?=some (.win q kq.es.length 0 hi)) (hqf:kq.fz=false) (hne:id≠q) :
  ∃ σ',Rel M0 (Au H id i off q hi) σ' w∧Stp σ w σ' w∧Keeps (cR M0 H σ) σ H.al w (cR M0 (Au H id i off q hi) σ') σ' (Au H id i off q hi).al w:=by
 have hal:¬ H.al H.next:=fun h=>mK _ (hR.nxt _ h)
 have hid:H.al id:=bD fun hn=>by rw [(hR.top id hn).2] at hk;cases hk
 have hidn:id≠H.next:=fun h=>hal (h ▸ hid)
 obtain ⟨oq,hoq,lq⟩:=hR.lies q kq hq
 obtain ⟨o,ho,l⟩:=hR.lies id k hk
 obtain ⟨xs,hrow,hx1,hrep⟩:=l.row
 have hlen0:=l.esz c0 (aH hc)
 have hoff:off<o.esz:=by rw [← hlen0];exact (aL.1 hn).1
 have hold:k.es.flatten[i * o.esz+off]?=some (.win q kq.es.length 0 hi):=by rw [k9 k.es i c0 l.esz hc off hoff];exact hn
 have hlt:i * o.esz+off<xs.length:=by rw [hrep.len];exact (aL.1 hold).1
 obtain ⟨v,hv⟩:∃ v,xs[i * o.esz+off]?=some v:=⟨_,aA hlt⟩
 have hrv:=hrep.rep _ v _ hv hold
 have hone:v.oneCell'=true:=hx1 v (aH hv)
 obtain ⟨hh,hw⟩:hi≤kq.es.length∧Sp oq v kq.es.length 0 hi:=by
  cases hrv
  rename_i _ _ hlh h
  refine ⟨hlh.2,?_⟩
  rcases h oq hoq with h'|⟨_,h'⟩
  ·have:=lq.ver;omega
  ·exact h'
 obtain ⟨p1,p2,p3⟩:=PQ hR hq hqf hoq hal hh hw
 have hk1:((H.drop q).push H.next ⟨kq.ty,kq.sz,kq.es.take hi,false⟩).get id=some k:=by simp [AHeap.push,AHeap.drop,hidn,hne,hk]
 have ho1:(fun i=>if i=H.next then some (⟨hi,v,oq.esz,oq.ty⟩:Ow) else if i=q then none else σ i) id=some o:=by simp [hidn,hne,ho]
 have hesz':∀ c∈k.es.set i (c0.set off (.own H.next hi)),c.length=o.esz:=fun c hc'=>by
  rcases lH hc' with h|h
  ·exact l.esz c h
  ·subst h;simp [hlen0]
 have hfl:=u9 (D.own H.next hi) off c0 k.es i l.esz hc hoff
 obtain ⟨q1,q2,q3⟩:=Rel.put p1 hk1 hf ho1 { k with es:=k.es.set i (c0.set off (.own H.next hi)) } o ⟨rfl,rfl,rfl,aY _,fun _ _ _=>rfl⟩ (fun b hb=>.inl hb) (.inl rfl) (by simp [l.ver]) l.ty l.sz hesz' xs (by simpa using hrow) hx1 (by
   have hrep':=hrep.keep p3
   simp only
   rw [hfl]
   refine ⟨by simpa using hrep'.len,fun j u d hu hd=>?_⟩
   rw [cO] at hd
   split at hd
   ·rename_i hj
    split at hd
    ·cases hd
     rw [← hj,hv] at hu
     cases hu
     exact .own _ _ _ (.inl rfl) hone fun o' ho'=>by simp at ho';subst ho';exact .inr ⟨rfl,rfl⟩
    ·cases hd
   ·exact hrep'.rep j u d hu hd)
 have hg:Au H id i off q hi=((H.drop q).push H.next ⟨kq.ty,kq.sz,kq.es.take hi,false⟩).put id { k with es:=k.es.set i (c0.set off (.own H.next hi)) }:=by
  simp only [Au,hk,hq,hc,aD]
 rw [hg]
 exact ⟨_,q1,p2.trans q2,p3.trans q3⟩
theorem u7 {H H':AHeap}(hg:Ghosts H H'){σ:Nat→Option Ow}{w:World}(hR:Rel M0 H σ w):∃ σ',Rel M0 H' σ' w∧Stp σ w σ' w∧Keeps (cR M0 H σ) σ H.al w (cR M0 H' σ') σ' H'.al w:=by
 induction hg with
 | refl=>exact ⟨σ,hR,.refl _ _,.refl _ _ _ _⟩
 | trunc h id i off q hi k kq c hk hf hc hq hn hqf hne ih =>
  obtain ⟨σ1,h1,h2,h3⟩:=ih
  obtain ⟨σ2,h4,h5,h6⟩:=JV h1 hk hf hc hq hn hqf hne
  exact ⟨σ2,h4,h2.trans h5,h3.trans h6⟩
 | step h id i off ty sz k c hk hf hc hn ih =>
  obtain ⟨σ1,h1,h2,h3⟩:=ih
  obtain ⟨σ2,h4,h5,h6⟩:=Mi (ty:=ty) (sz:=sz) h1 hk hf hc hn
  exact ⟨σ2,h4,h2.trans h5,h3.trans h6⟩
theorem St.keeps {H H':AHeap}{σ σ':Nat→Option Ow}{w:World}{e:cX}{a:Act}(hS:St n M0 H σ w e a)(hR:Rel M0 H' σ' w)(hk:Keeps (cR M0 H σ) σ H.al w (cR M0 H' σ') σ' H'.al w):St n M0 H' σ' w e a :=
 ⟨hR,fun t=>(hS.env t).keep hk,hS.defers,hS.size⟩
theorem mH (hm : P.follows .mixedOrders = true) : ∀ (x : Code) (Q : Exit → cX → AHeap → Prop) (e : cX) (H : AHeap), mN P c x Q e H → nD c n x = true →
    ∀ (σ : Nat → Option Ow) (w : World) (a : Act), St n M0 H σ w e a → x.wp P (PJ n M0 H σ w Q) a w
  | .skip, Q, e, H, h, _, σ, w, a, hS => wp_skip ⟨e, H, σ, h, hS, .refl _ _, .refl _ _ _ _⟩
  | .region id ops dr, Q, e, H, h, hok, σ, w, a, hS => by
    simp only [nD, aJ, cH, cG, cQ] at hok
    unfold mN at h
    cases dr with
    | false =>
      simp only [dX, if_false] at h
      exact wp_region_list (GX ops.toList e H _ h hok.1 σ w a hS fun a' w' hc => hc)
    | true =>
      simp only [if_true] at h
      exact Om hm (hok.2.resolve_left (by simp)) hok.1 h hS fun a' w' hc => hc
  | .seq x y, Q, e, H, h, hok, σ, w, a, hS => by
    simp only [nD, aJ] at hok
    unfold mN at h
    refine wp_seq (gH (mH hm x _ e H h hok.1 σ w a hS) fun ex a' w' hc => ?_)
    cases ex <;> first | exact hc | skip
    obtain ⟨e', H', σ', hq, hS', hst, hk⟩ := hc
    exact gH (mH hm y Q e' H' hq hok.2 σ' w' a' hS') fun ex a'' w'' hc' => Came.trans hst hk hc'
  | .cond x y z, Q, e, H, h, hok, σ, w, a, hS => by
    simp only [nD, aJ] at hok
    unfold mN at h
    have hx := hS.envR.ev x
    cases hv : dZ e x <;> simp only [hv] at h <;> try (exact h.elim)
    rename_i t
    rw [hv] at hx
    have hc : a.eval x = .bool t := by generalize a.eval x = v at hx; cases hx; rfl
    exact wp_cond_split hc (fun ht => mH hm y Q e H (h.1 ht) hok.1 σ w a hS) fun ht => mH hm z Q e H (h.2 ht) hok.2 σ w a hS
  | .block id b, Q, e, H, h, hok, σ, w, a, hS => by
    unfold mN at h
    refine wp_block (gH (mH hm b _ e H h hok σ w a hS) fun ex a' w' hc => ?_)
    cases ex <;> first | exact hc | skip
    rename_i id'
    by_cases hid : id' = id
    · subst hid
      show (if id' = id' then PJ n M0 H σ w Q .normal a' w' else _)
      rw [if_pos rfl]
      exact Came.mono hc fun e' H' h => by
        have h' : (if id' = id' then Q .normal e' H' else Q (.exit id') e' H') := h
        rw [if_pos rfl] at h'; exact h'
    · show (if id' = id then PJ n M0 H σ w Q .normal a' w' else PJ n M0 H σ w Q (.exit id') a' w')
      rw [if_neg hid]
      exact Came.mono hc fun e' H' h => by
        have h' : (if id' = id then Q .normal e' H' else Q (.exit id') e' H') := h
        rw [if_neg hid] at h'; exact h'
  | .loop b, Q, e, H, h, hok, σ, w, a, hS => by
    unfold mN at h
    obtain ⟨I, ⟨H1, hgh, k0, h0⟩, hI⟩ := h
    obtain ⟨σ1, g1, g2, g3⟩ := u7 hgh hS.rel
    have hS1 := hS.keeps g1 g3
    let J : Nat → Act → World → Prop := fun k a' w' => Came n M0 H σ w (I k) a' w'
    have hJ0 : J k0 a w := ⟨e, H1, σ1, h0, hS1, g2, g3⟩
    classical
    let μ : Act → World → Nat := fun a' w' => if hx : ∃ k, J k a' w' then Classical.choose (e8 hx) else 0
    refine wp_loop (fun a' w' => ∃ k, J k a' w') μ ⟨k0, hJ0⟩ fun a' w' hx => ?_
    have hμ : μ a' w' = Classical.choose (e8 hx) := by simp only [μ, dif_pos hx]
    obtain ⟨e', H', σ', hi, hS', hst, hk⟩ := (wM (e8 hx)).1
    refine gH (mH hm b _ e' H' (hI _ e' H' hi) hok σ' w' a' hS') fun ex a'' w'' hc => ?_
    have hc' := Came.trans hst hk hc
    cases ex <;> first | exact hc' | skip
    obtain ⟨e2, H20, σ20, ⟨H2, hgh2, k', hlt, hk'⟩, hS2, hst2, hk2⟩ := hc'
    obtain ⟨σ2, j1, j2, j3⟩ := u7 hgh2 hS2.rel
    have rest := And.intro (hS2.keeps j1 j3) (And.intro (hst2.trans j2) (hk2.trans j3))
    have hx2 : ∃ k, J k a'' w'' := ⟨k', e2, H2, σ2, hk', rest⟩
    refine ⟨hx2, ?_⟩
    have : μ a'' w'' = Classical.choose (e8 hx2) := by simp only [μ, dif_pos hx2]
    rw [this, hμ]
    refine Nat.lt_of_le_of_lt ?_ hlt
    rcases bZ k' (Classical.choose (e8 hx2)) with hlt' | hge
    · exact absurd ⟨e2, H2, σ2, hk', rest⟩ ((wM (e8 hx2)).2 k' hlt')
    · exact hge
  | .exit id, Q, e, H, h, _, σ, w, a, hS => wp_exit ⟨e, H, σ, h, hS, .refl _ _, .refl _ _ _ _⟩
  | .ret, Q, e, H, h, _, σ, w, a, hS => wp_ret ⟨e, H, σ, h, hS, .refl _ _, .refl _ _ _ _⟩
  | .rangeFunc .., Q, e, H, h, _, _, _, _, _ => h.elim
  | .scope .., Q, e, H, h, _, _, _, _, _ => h.elim
  | .label .., Q, e, H, h, _, _, _, _, _ => h.elim
  | .goto .., Q, e, H, h, _, _, _, _, _ => h.elim
  | .refuse .., Q, e, H, h, _, _, _, _, _ => h.elim
end
end Go.Abs
end
section
namespace Go.Abs
def BZ (P:Program):List ResultVar→cX→AHeap→(List D→Prop)→Prop
 | [],_,_,K=>K []
 | .tmp t :: r,e,H,K=>BZ P r e H fun l=>K (e t :: l)
 | .cell a ty :: r,e,H,K=>(l6 P ty (e a) H).cond∧BZ P r e H fun l=>K ((l6 P ty (e a) H).val :: l)
def EH:List D→D
 | [d]=>d
 | l=>.tup l
def P1 (P:Program)(rs:List ResultVar)(Q:D→AHeap→Prop):Exit→cX→AHeap→Prop
 | .normal,e,H=>BZ P rs e H fun l=>Q (EH l) H
 | .ret,e,H=>BZ P rs e H fun l=>Q (EH l) H
 | _,_,_=>False
def zG (args:List D):cX:=fun t=>args.getD t .junk
def Cp (tmps:Array Value):ResultVar→Sem Value
 | .tmp t=>Pure.pure (tmps.getD t undef)
 | .cell x t=>do loadVar t (← asAddr (tmps.getD x undef))
section
variable {P:Program} {M0:Nat→Prop} {H:AHeap} {σ:Nat→Option Ow} {w:World} {n:Nat} {e:cX} {a:Act}
theorem vJ (hS : St n M0 H σ w e a) : ∀ (rs : List ResultVar) (K : List D → Prop), BZ P rs e H K →
    ∃ vs l, Sem.run P (rs.mapM (Cp a.tmps)) w = Result.ok vs w ∧ RepL (cR M0 H σ) σ H.al w vs l ∧ K l
  | [], K, h => ⟨[], [], by simp, ⟨rfl, fun j u d hu => by simp at hu⟩, h⟩
  | .tmp t :: rs, K, h => by
    obtain ⟨vs, l, h1, h2, h3⟩ := vJ hS rs _ h
    refine ⟨a.tmps.getD t undef :: vs, e t :: l, by simp [List.mapM_cons, Cp, h1], ⟨by simp [h2.len], fun j u d hu hd => ?_⟩, h3⟩
    cases j with
    | zero => simp only [jR, bC] at hu hd; subst hu; subst hd; exact hS.env t
    | succ j => exact h2.rep j u d (by simpa using hu) (by simpa using hd)
  | .cell x t :: rs, K, h => by
    obtain ⟨vs, l, h1, h2, h3⟩ := vJ hS rs _ h.2
    obtain ⟨_, _, v, hr, hv⟩ := L4 (P := P) hS.rel (hS.env x) h.1
    have hld : Sem.run P (Cp a.tmps (.cell x t)) w = .ok v w := by
      simp only [Cp]
      unfold Instr.loadAt at hr
      generalize a.tmps.getD x undef = q at hr ⊢
      cases q with
      | pointer p => cases p with
        | some ad => simpa [Instr.sureAddr, asAddr] using hr
        | none => simp [Instr.sureAddr, stuck] at hr
      | _ => simp [Instr.sureAddr, stuck] at hr
    refine ⟨v :: vs, _ :: l, by simp [List.mapM_cons, hld, h1], ⟨by simp [h2.len], fun j u d hu hd => ?_⟩, h3⟩
    cases j with
    | zero => simp only [jR, bC] at hu hd; subst hu; subst hd; exact hv
    | succ j => exact h2.rep j u d (by simpa using hu) (by simpa using hd)
theorem Dm {fn : Func} {vs : List Value} {l : List D} (h : Sem.run P (fn.results.toList.mapM (Cp a.tmps)) w = .ok vs w) (hrep : RepL (cR M0 H σ) σ H.al w vs l) :
    ∃ v, (results fn a.tmps).run P w = .ok v w ∧ RepV (cR M0 H σ) σ H.al w v (EH l) := by
  have hres : results fn a.tmps = (do let vs ← fn.results.mapM (Cp a.tmps); Pure.pure (if h : vs.size = 1 then vs[0] else .tuple vs)) := rfl
  rw [hres, Array.mapM_eq_mapM_toList]
  refine ⟨if h : vs.toArray.size = 1 then vs.toArray[0] else .tuple vs.toArray, by simp [h], ?_⟩
  by_cases h1 : vs.length = 1
  · match vs, h1, hrep with
    | [v], _, hrep =>
      match l, hrep with
      | [d], hrep => simpa [EH] using hrep.rep 0 v d rfl rfl
      | [], hrep => have := hrep.len; simp at this
      | _ :: _ :: _, hrep => have := hrep.len; simp at this
  · have hsz : ¬ vs.toArray.size = 1 := by simpa using h1
    rw [dif_neg hsz]
    have hl : EH l = .tup l := by
      match l, hrep with
      | [], _ => rfl
      | [d], hrep => have := hrep.len; simp at this; exact absurd this h1
      | _ :: _ :: _, _ => rfl
    rw [hl]
    exact .tup vs l hrep.len hrep.rep
theorem aG {f:FuncId}{fn:Func}{x:Code}{cfg:Cfg}{args:List D}{Q:D→AHeap→Prop}(hm:P.follows .mixedOrders=true)(hf:P.funcs[f]?=some fn)(hb:fn.body=some x)
  (hnm:(fn.name=="runtime.NumGoroutine")=false) (hlen:args.length≤fn.ntmps) (hok:nD cfg fn.ntmps x=true)
  (h:mN P cfg x (P1 P fn.results.toList Q) (zG args) H):ACalls P f args H Q:=by
 refine ⟨⟨fn,hf,hnm,by simp [hb]⟩,fun M0 σ w vals hR ha=>calls_of_wp hf hb ?_⟩
 have hS:St fn.ntmps M0 H σ w (zG args) { tmps:=vals.toArray++Array.replicate (fn.ntmps - vals.toArray.size) undef,defers:=[] }:=by
  refine ⟨hR,fun t=>?_,rfl,by simp [ha.len];omega⟩
  simp only [zG]
  by_cases ht:t<vals.length
  ·have h1:vals[t]?=some vals[t]:=aA ht
   have h2:args[t]?=some (args[t]'(by rw [← ha.len];exact ht)):=aA _
   have:=ha.rep t _ _ h1 h2
   rw [List.getD_eq_getElem?_getD,h2]
   simp only [aD,g7]
   rw [Array.getElem?_append_left (by simpa using ht)]
   simpa [h1] using this
  ·rw [List.getD_eq_getElem?_getD,bL (by rw [← ha.len];omega)]
   exact .junk _
 refine gH (mH hm x _ _ H h hok σ w _ hS) fun ex a' w' hc=>?_
 obtain ⟨e',H',σ',hq,hS',hst,hk⟩:=hc
 have fin:BZ P fn.results.toList e' H' (fun l=>Q (EH l) H')→a'.defers=[]∧∃ v,(results fn a'.tmps).run P w'=.ok v w' ∧
   ∃ v2 d H2 σ2,Ending.returned v=.returned v2∧Rel M0 H2 σ2 w'∧RepV (cR M0 H2 σ2) σ2 H2.al w' v2 d∧Stp σ w σ2 w'∧Keeps (cR M0 H σ) σ H.al w (cR M0 H2 σ2) σ2 H2.al w'∧Q d H2:=by
  intro hq
  obtain ⟨vs,l,h1,h2,h3⟩:=vJ hS' _ _ hq
  obtain ⟨v,hv1,hv2⟩:=Dm (fn:=fn) h1 h2
  exact ⟨hS'.defers,v,hv1,v,_,H',σ',rfl,hS'.rel,hv2,hst,hk,h3⟩
 cases ex<;>first|exact fin hq|exact hq.elim
end
/-! ### pure contracts -/
theorem B6 {l:List D}(h:∀ d∈l,d.cl=true):D.clL l=true:=by
 induction l with
 | nil=>rfl
 | cons a l ih=>simp [D.clL,h a (by simp),ih fun d hd=>h d (by simp [hd])]
def gC:Nat→Option Ow:=fun _=>none
def o6:Nat→Prop:=fun _=>False
def Pure (P:Program)(f:FuncId)(args:List D)(r:D):Prop :=
 T3 P f∧∀ (M:Nat→Prop) (w:World) (vals:List Value),(∀ b,M b→b<w.heap.size)→RepL M gC o6 w vals args →
  Calls P f vals.toArray w fun e w'=>∃ v,e=.returned v∧RepV M gC o6 w' v r∧RowKit.Below w.heap.size w w'
def Own (P:Program)(f:FuncId)(args:List D)(ty:TypeId)(sz:Nat)(es:List (List D)):Prop :=
 T3 P f∧∀ (M:Nat→Prop) (w:World) (vals:List Value),(∀ b,M b→b<w.heap.size)→RepL M gC o6 w vals args →
  Calls P f vals.toArray w fun e w'=>∃ v xs,e=.returned v∧w'.ownsRow w.heap.size ty sz v es.length xs∧(∀ u∈xs,u.oneCell'=true)∧RepL (fun b=>M b∨v.ownBlock=some b) gC o6 w' xs es.flatten∧D.clLL es=true∧(∀ c∈es,c.length=sz) ∧
   RowKit.Below w.heap.size w w'
def oQ (H:AHeap):D→D
 | .tup vs=>.tup (vs.map (gX H))
 | d=>gX H d
def Cv:D→List Nat
 | .tup vs=>vs.flatMap dD
 | d=>dD d
section
variable {P:Program} {M0:Nat→Prop} {H:AHeap} {σ:Nat→Option Ow} {w:World}
theorem rK {v:Value}{d:D}(hR:Rel M0 H σ w)(hx:RepV (cR M0 H σ) σ H.al w v d)(ids:List Nat)(hi:∀ i∈Cv d,i∈ids) :
  RepV (cR M0 (eP ids H) σ) σ (eP ids H).al w v (oQ H d):=by
 cases d with
 | tup vs =>
  cases hx
  rename_i xs hl hr
  refine .tup xs _ (by simpa using hl) fun j u x hu hx=>?_
  rw [aM,bF] at hx
  obtain ⟨y,hy,rfl⟩:=hx
  exact kV hR (hr j u y hu hy) ids fun i hii=>hi i (by simp only [Cv,bQ];exact ⟨y,aH hy,hii⟩)
 | _=>exact kV hR hx ids hi
theorem Eu (M:Nat→Prop):cR M .emp gC=M:=by
 funext b
 exact propext ⟨fun h=>h.elim (fun h=>h) fun ⟨_,_,_,h,_⟩=>by simp [AHeap.emp] at h,.inl⟩
theorem Er (M:Nat→Prop)(w:World)(hM:∀ b,M b→b<w.heap.size):Rel M .emp gC w :=
 ⟨fun _ _=>⟨rfl,rfl⟩,fun _ h=>h.elim,fun _ _ h=>by simp [AHeap.emp] at h,fun _ _ _ _ _ h=>by simp [gC] at h,fun _ _ _ h=>by simp [gC] at h,hM⟩
theorem yG {σ':Nat→Option Ow}{w':World}(h:Stp gC w σ' w'):RowKit.Below w.heap.size w w' :=
 ⟨h.os,h.tape,h.output,h.size,fun b hb=>h.old b hb fun _ _ h=>by simp [gC] at h⟩
theorem aR {f:FuncId}{args:List D}{r:D}(h:ACalls P f args .emp fun d H'=>oQ H' d=r∧r.cl=true):Pure P f args r:=by
 refine ⟨h.1,fun M w vals hM ha=>(h.2 M gC w vals (Er M w hM) (by rw [Eu];exact ha)).mono fun e w' ⟨v,d,H',σ',he,hR,hv,hst,hk,hr,hcl⟩=>⟨v,he,?_,yG hst⟩⟩
 have h1:=rK hR hv (Cv d) fun i hi=>hi
 rw [hr] at h1
 exact h1.closed (fun ad u hm hc=>⟨fun h=>hm (.inl h),hc⟩) hcl
theorem Be {f:FuncId}{args:List D}{ty:TypeId}{sz:Nat}{es:List (List D)}
  (h:ACalls P f args .emp fun d H'=>∃ id k,d=.own id es.length∧H'.get id=some k∧k.es=es∧k.ty=ty∧k.sz=sz∧k.fz=false∧D.clLL es=true):Own P f args ty sz es:=by
 refine ⟨h.1,fun M w vals hM ha=>(h.2 M gC w vals (Er M w hM) (by rw [Eu];exact ha)).mono fun e w' ⟨v,d,H',σ',he,hR,hv,hst,hk,id,k,hd,hget,h1,h2,h3,hfz,hcl⟩=>?_⟩
 subst hd;subst h1;subst h2;subst h3
 obtain ⟨o,ho,l⟩:=hR.lies id k hget
 obtain ⟨xs,hrow,hx1,hrep⟩:=l.row
 cases hv
 rename_i _ _ hval
 rcases hval o ho with hlt|⟨_,rfl⟩
 ·have:=l.ver;omega
 ·refine ⟨o.val,xs,he,?_,hx1,⟨hrep.len,fun j u d hu hd=>(hrep.rep j u d hu hd).closed (fun ad u hm hc=>⟨fun h=>hm (h.elim .inl fun h=>.inr ⟨id,k,o,hget,hfz,ho,h⟩),hc⟩) ?_⟩,hcl,fun c hc=>(l.esz c hc).trans l.sz,yG hst⟩
  ·rw [← l.sz]
   refine ⟨hrow.1,?_⟩
   rcases hrow.2 with hn|⟨g,cap,cur,h1,_,h3⟩
   ·exact .inl hn
   ·refine .inr ⟨g,cap,cur,h1,?_,h3⟩
    rcases hst.new id o g ho (by simp [Ow.block,h1,Value.ownBlock]) with h|⟨_,o',h,_⟩
    ·exact h
    ·simp [gC] at h
  ·obtain ⟨c,hcm,hxm⟩:=iG.1 (aH hd)
   exact iN (n9 hcl c hcm) d hxm
theorem xM {M:Nat→Prop}{N:Nat→Prop}:Keeps M gC o6 w M σ N w:=⟨fun _ _ h k=>⟨h,k⟩,fun _ _ h=>h.elim,fun _ h=>h.elim⟩
theorem fQ {M M':Nat→Prop}{N N':Nat→Prop}{σ':Nat→Option Ow}(hM:∀ b,¬ M b→¬ M' b){vs:List Value}{ds:List D}(h:RepL M σ N w vs ds)(hc:D.clL ds=true):RepL M' σ' N' w vs ds :=
 ⟨h.len,fun j u d hu hd=>(h.rep j u d hu hd).closed (fun ad u hm hc=>⟨hM _ hm,hc⟩) (iN hc d (aH hd))⟩
theorem sO (hR:Rel M0 H σ w):∀ b,cR M0 H σ b→b<w.heap.size:=by
 rintro b (h|⟨i,k,o,_,_,ho,hb⟩)
 ·exact hR.m0 b h
 ·exact (hR.lt i o b ho hb).1
theorem pV {f:FuncId}{args:List D}{r:D}{Q:D→AHeap→Prop}(hp:Pure P f args r)(hcl:D.clL args=true)(hQ:Q r H):ACalls P f args H Q:=by
 refine ⟨hp.1,fun M0 σ w vals hR ha=>(hp.2 (cR M0 H σ) w vals (sO hR) (fQ (fun _ h=>h) ha hcl)).mono fun e w' ⟨v,he,hv,hb⟩=>?_⟩
 obtain ⟨h1,h2,h3⟩:=hR.grow hb.os hb.tape hb.output hb.size hb.block
 exact ⟨v,r,H,σ,he,h1,hv.keep xM,h2,h3,hQ⟩
theorem A5 {M0:Nat→Prop}(hR:Rel M0 H σ w){vals:List Value}{args:List D}(ha:RepL (cR M0 H σ) σ H.al w vals args)(ids:List Nat)(hi:∀ i∈args.flatMap dD,i∈ids) :
  RepL (cR M0 (eP ids H) σ) σ (eP ids H).al w vals (args.map (gX H)) :=
 ⟨by simpa using ha.len,fun j u d hu hd=>by
  rw [aM,bF] at hd
  obtain ⟨y,hy,rfl⟩:=hd
  exact kV hR (ha.rep j u y hu hy) ids fun i hii=>hi i (bQ.2 ⟨y,aH hy,hii⟩)⟩
def D.flat1:D→Bool
 | .int .. | .bool _ | .str _ | .nil | .nilp | .nilf=>true
 | _=>false
def D.flat:D→Bool
 | .tup vs=>vs.all D.flat1
 | d=>d.flat1
theorem IE {M M':Nat→Prop}{N N':Nat→Prop}{σ σ':Nat→Option Ow}{w w':World}{v:Value}{d:D}(h:RepV M σ N w v d)(hf:d.flat1=true):RepV M' σ' N' w' v d:=by
 cases h<;>first|(simp [D.flat1] at hf;done)|constructor
theorem xT {M M':Nat→Prop}{N N':Nat→Prop}{σ σ':Nat→Option Ow}{w w':World}{v:Value}{d:D}(h:RepV M σ N w v d)(hf:d.flat=true):RepV M' σ' N' w' v d:=by
 cases d with
 | tup vs =>
  cases h
  rename_i xs hl hr
  simp only [D.flat,cH] at hf
  exact .tup xs vs hl fun j u x hu hx=>IE (hr j u x hu hx) (hf x (aH hx))
 | _=>exact IE h hf
theorem vN {f:FuncId}{args:List D}{r:D}{Q:D→AHeap→Prop}(hp:Pure P f (args.map (gX H)) r)(hcl:D.clL (args.map (gX H))=true)(hf:r.flat=true)(hQ:Q r H):ACalls P f args H Q:=by
 refine ⟨hp.1,fun M0 σ w vals hR ha=>?_⟩
 obtain ⟨f1,f2,f3,f4⟩:=eU (args.flatMap dD) hR
 refine (hp.2 (cR M0 (eP (args.flatMap dD) H) σ) w vals (sO f1) (fQ (fun _ h=>h) (A5 hR ha _ fun i h=>h) hcl)).mono fun e w' ⟨v,he,hv,hb⟩=>?_
 obtain ⟨h1,h2,h3⟩:=hR.grow hb.os hb.tape hb.output hb.size hb.block
 exact ⟨v,r,H,σ,he,h1,xT hv hf,h2,h3,hQ⟩
theorem Kp {f:FuncId}{args:List D}{r:D}{Q:D→AHeap→Prop}(hp:Pure P f (args.map (gX H)) r)(hcl:D.clL (args.map (gX H))=true)(hQ:Q r (eP (args.flatMap dD) H)):ACalls P f args H Q:=by
 refine ⟨hp.1,fun M0 σ w vals hR ha=>?_⟩
 obtain ⟨f1,f2,f3,f4⟩:=eU (args.flatMap dD) hR
 refine (hp.2 (cR M0 (eP (args.flatMap dD) H) σ) w vals (sO f1) (fQ (fun _ h=>h) (A5 hR ha _ fun i h=>h) hcl)).mono fun e w' ⟨v,he,hv,hb⟩=>?_
 obtain ⟨h1,h2,h3⟩:=f1.grow hb.os hb.tape hb.output hb.size hb.block
 exact ⟨v,r,_,σ,he,h1,hv.keep xM,h2,f2.trans h3,hQ⟩
theorem M6 {f:FuncId}{args:List D}{ty:TypeId}{sz:Nat}{es:List (List D)}{Q:D→AHeap→Prop}(hp:Own P f args ty sz es)(hcl:D.clL args=true)
  (hQ:Q (.own H.next es.length) (H.push H.next ⟨ty,sz,es,false⟩)):ACalls P f args H Q:=by
 refine ⟨hp.1,fun M0 σ w vals hR ha=>(hp.2 (cR M0 H σ) w vals (sO hR) (fQ (fun _ h=>h) ha hcl)).mono fun e w' ⟨v,xs,he,hrow,h1,hrep,hcll,hsz,hb⟩=>?_⟩
 have hrow0:w'.ownsRow 0 ty sz v es.length xs:=⟨hrow.1,hrow.2.imp (fun x=>x) fun ⟨g,cap,cur,a,b,c⟩=>⟨g,cap,cur,a,d8 _,c⟩⟩
 have hbk:∀ b,v.ownBlock=some b→w.heap.size≤b:=fun b hb'=>by
  rcases hrow.2 with hn|⟨g,cap,cur,h1,h2,h3⟩
  ·rw [hn.1] at hb';simp [Value.ownBlock] at hb'
  ·rw [h1] at hb';simp only [Value.ownBlock,bC] at hb';omega
 have hG:∀ ad,¬ (cR M0 H σ ad∨v.ownBlock=some ad)→¬ cR M0 (H.push H.next ⟨ty,sz,es,false⟩) (fun i=>if i=H.next then some ⟨es.length,v,sz,ty⟩ else σ i) ad:=by
  intro ad hm h
  rcases h with h|⟨i,k',o',hk',hf,ho',hb'⟩
  ·exact hm (.inl (.inl h))
  ·by_cases hii:i=H.next
   ·simp only [hii,if_true,bC] at ho'
    subst ho'
    exact hm (.inr hb')
   ·simp only [hii,if_false] at ho'
    simp only [AHeap.push,hii,if_false] at hk'
    exact hm (.inl (.inr ⟨i,k',o',hk',hf,ho',hb'⟩))
 have hclF:D.clL es.flatten=true:=B6 fun d hd=>by
  obtain ⟨c,hcm,hxm⟩:=iG.1 hd
  exact iN (n9 hcll c hcm) d hxm
 obtain ⟨p1,p2,p3⟩:=Rel.pushG hR H.next (fun h=>mK _ (hR.nxt _ h)) (w':=w') hb.os hb.tape hb.output hb.size hb.block ⟨ty,sz,es,false⟩ ⟨es.length,v,sz,ty⟩
  hbk rfl rfl rfl hsz xs hrow0 h1 (fun hk=>fQ hG hrep hclF)
 exact ⟨v,_,_,_,he,p1,.own v _ _ (.inl rfl) (by rcases hrow.2 with ⟨hn,_⟩|⟨g,cap,cur,hn,_⟩<;>simp [hn,Value.oneCell']) (fun o ho=>by simp at ho;subst ho;exact .inr ⟨rfl,rfl⟩),p2,p3,hQ⟩
end
end Go.Abs
end
section
namespace Go.Abs
inductive SOut where
 | op (o:AOut)
 | call (f:FuncId) (args:List D)
 | gop (t:Bool) (g:Bool) (o:AOut)
 | gcall (t:Bool) (g:Bool) (f:FuncId) (args:List D)
 | bad
def Jk (c:Option (FuncId × List D))(o:AOut):SOut :=
 match c with
 | some (f,args)=>.call f args
 | none=>.op o
def Hc (gc:Option (Bool × Bool))(b:Bool)(g:Bool)(c:Option (FuncId × List D))(o:AOut):SOut :=
 match gc with
 | some (t,c')=>match c with
  | some (f,args)=>.gcall (t&&(c'==b)) g f args
  | none=>.gop (t&&(c'==b)) g o
 | none=>.bad
def lJ (P:Program)(md:Nat→Bool)(nid:Nat)(ops:Array Oper)(e:cX)(o:Oper)(H:AHeap):SOut :=
 match o.guard with
 | none=>Jk (fN e o) (Ek P nid md e o H)
 | some (j,b)=>Hc (gD ops e j) b (Q8 e (gO o.op)) (fN (gE e o.op) o) (Ek P nid md (gE e o.op) o H)
def gU (P:Program)(md:Nat→Bool)(ops:Array Oper)(rest:List Oper)(e:cX)(dst:Option Tmp)(K:cX→AHeap→Prop)(f:FuncId)(args:List D)(H:AHeap):Prop :=
 ACalls P f args H fun v H1=>lQ P md ops rest (nK e dst v) H1 K
def xS (P:Program)(md:Nat→Bool)(ops:Array Oper)(rest:List Oper)(e:cX)(dst:Option Tmp)(K:cX→AHeap→Prop)(t:Bool)(f:FuncId)(args:List D)(H:AHeap):Prop :=
 (∃ r S,(t=true→∀ H',eY S H' H→ACalls P f args H' fun v H1=>v=r∧H1=H')∧lQ P md ops rest (nK e dst (.opt t r)) H K) ∨
  ((t=true→ACalls P f args H fun v H1=>lQ P md ops rest (nK e dst (.opt true v)) H1 K)∧(t=false→∃ r,lQ P md ops rest (nK e dst (.opt false r)) H K))
def xV (P:Program)(md:Nat→Bool)(ops:Array Oper)(rest:List Oper)(e:cX)(dst:Option Tmp)(H:AHeap)(K:cX→AHeap→Prop):SOut→Prop
 | .op o=>o.cond∧(o.fact→lQ P md ops rest (nK e dst o.val) o.heap K)
 | .call f args=>gU P md ops rest e dst K f args H
 | .gop t g o=>(t=true→g=true)∧(t=true→o.cond∧o.heap=H)∧((t=true→o.fact)→lQ P md ops rest (nK e dst (.opt t o.val)) H K)
 | .gcall t g f args=>(t=true→g=true)∧xS P md ops rest e dst K t f args H
 | .bad=>False
theorem Q6 (P : Program) (md : Nat → Bool) (ops : Array Oper) (o : Oper) (rest : List Oper) (e : cX) (H : AHeap) (K : cX → AHeap → Prop) :
    lQ P md ops (o :: rest) e H K = xV P md ops rest e o.dst H K (lJ P md H.next ops e o H) := by
  obtain ⟨dst, op, type, pos, after, guard⟩ := o
  cases guard with
  | none =>
    simp only [lQ, nF, lJ]
    cases hc : fN e { dst := dst, op := op, type := type, pos := pos, after := after, guard := none } with
    | none => simp [Jk, xV]
    | some p => simp [Jk, xV, gU]
  | some p =>
    obtain ⟨j, b⟩ := p
    simp only [lQ, nF, lJ]
    cases hg : gD ops e j with
    | none => simp [Hc, xV]
    | some gc =>
      obtain ⟨t, c'⟩ := gc
      simp only
      cases hc : fN (gE e op) { dst := dst, op := op, type := type, pos := pos, after := after, guard := some (j, b) } with
      | none => simp [Hc, xV]
      | some p => simp [Hc, xV, xS]
@[go_sem] theorem VY (P:Program)(md:Nat→Bool)(ops:Array Oper)(e:cX)(H:AHeap)(K:cX→AHeap→Prop):lQ P md ops [] e H K=K e H:=rfl
@[go_sem] theorem Xe (P:Program)(md:Nat→Bool)(ops:Array Oper)(rest:List Oper)(e:cX)(dst:Option Tmp)(H H':AHeap)(K:cX→AHeap→Prop)(c f:Prop)(v:D) :
  xV P md ops rest e dst H K (.op ⟨c,f,v,H'⟩)=(c∧(f→lQ P md ops rest (nK e dst v) H' K)):=rfl
@[go_sem] theorem U0 (P:Program)(md:Nat→Bool)(ops:Array Oper)(rest:List Oper)(e:cX)(dst:Option Tmp)(H:AHeap)(K:cX→AHeap→Prop)(f:FuncId)(args:List D) :
  xV P md ops rest e dst H K (.call f args)=gU P md ops rest e dst K f args H:=rfl
@[go_sem] theorem VU (P:Program)(md:Nat→Bool)(ops:Array Oper)(rest:List Oper)(e:cX)(dst:Option Tmp)(H H':AHeap)(K:cX→AHeap→Prop)(c f:Prop)(v:D)(t g:Bool) :
  xV P md ops rest e dst H K (.gop t g ⟨c,f,v,H'⟩)=((t=true→g=true)∧(t=true→c∧H'=H)∧((t=true→f)→lQ P md ops rest (nK e dst (.opt t v)) H K)):=rfl
@[go_sem] theorem TU (P:Program)(md:Nat→Bool)(ops:Array Oper)(rest:List Oper)(e:cX)(dst:Option Tmp)(H:AHeap)(K:cX→AHeap→Prop)(f:FuncId)(args:List D)(t g:Bool) :
  xV P md ops rest e dst H K (.gcall t g f args)=((t=true→g=true)∧xS P md ops rest e dst K t f args H):=rfl
@[go_sem] theorem Vi (f:FuncId)(args:List D)(o:AOut):Jk (some (f,args)) o=.call f args:=rfl
@[go_sem] theorem Vj (o:AOut):Jk none o=.op o:=rfl
@[go_sem] theorem V3 (e:cX)(d t:Nat)(v:D):nK e (some d) v t=if t=d then v else e t:=rfl
@[go_sem] theorem V4 (e:cX)(v:D):nK e none v=e:=rfl
def Th:List (Nat × D)→cX
 | []=>fun _=>.junk
 | (t,d) :: l=>fun t'=>if t'=t then d else Th l t'
@[go_sem] theorem Xb (t:Nat):Th [] t=.junk:=rfl
@[go_sem] theorem VR (t:Nat)(d:D)(l:List (Nat × D))(t':Nat):Th ((t,d) :: l) t'=if t'=t then d else Th l t':=rfl
@[go_sem] theorem Xa (t:Nat):zG [] t=.junk:=by simp [zG]
@[go_sem] theorem VP (d:D)(l:List D):zG (d :: l) 0=d:=rfl
@[go_sem] theorem VQ (d:D)(l:List D)(t:Nat):zG (d :: l) (t+1)=zG l t:=by simp [zG]
@[go_sem] theorem Yl (e:cX)(t:Nat):dZ e (.tmp t)=e t:=rfl
@[go_sem] theorem W8 (e:cX)(f:FuncId):dZ e (.func f)=.fn f []:=rfl
@[go_sem] theorem Yo (e:cX)(k:IntKind)(n:Int):dZ e (.const (.int k n))=.int k n:=rfl
@[go_sem] theorem W9 (e:cX)(b:Bool):dZ e (.const (.bool b))=.bool b:=rfl
@[go_sem] theorem Ym (e:cX)(b:ByteArray):dZ e (.const (.string b))=.str b:=rfl
@[go_sem] theorem Yn (e:cX):dZ e (.const (.slice none 0 0))=.nil:=rfl
@[go_sem] theorem W6 (e:cX):dZ e (.const (.pointer none))=.nilp:=rfl
@[go_sem] theorem W7 (e:cX):dZ e (.const .nilFunc)=.nilf:=rfl
@[go_sem] theorem UA:iE (.const (.slice none 0 0))=true:=rfl
@[go_sem] theorem Uy (t:Nat):iE (.tmp t)=false:=rfl
@[go_sem] theorem UB (k:IntKind)(n:Int):iE (.const (.int k n))=false:=rfl
@[go_sem] theorem TH (b:Bool):iE (.const (.bool b))=false:=rfl
@[go_sem] theorem Uz (b:ByteArray):iE (.const (.string b))=false:=rfl
@[go_sem] theorem TE:iE (.const (.pointer none))=false:=rfl
@[go_sem] theorem TF:iE (.const .nilFunc)=false:=rfl
@[go_sem] theorem TG (f:FuncId):iE (.func f)=false:=rfl
@[go_sem] theorem WQ (md:Nat→Bool)(t:Nat):Ea md (some t)=md t:=rfl
@[go_sem] theorem WR (md:Nat→Bool):Ea md none=false:=rfl
section
variable (P:Program) (md:Nat→Bool) (nid:Nat) (ops:Array Oper) (e:cX) (d:Option Tmp) (ty:TypeId) (p:String) (af:Array Edge) (H:AHeap)
@[go_sem] theorem Y6 (x:Operand):lJ P md nid ops e ⟨d,.move x,ty,p,af,none⟩ H=.op (if iE x then C9 P nid (Ea md d) ty H else ⟨True,True,dZ e x,H⟩):=rfl
@[go_sem] theorem V8 (x:Operand):lJ P md nid ops e ⟨d,.assign x,ty,p,af,none⟩ H=.op (if iE x then C9 P nid (Ea md d) ty H else ⟨True,True,dZ e x,H⟩):=rfl
@[go_sem] theorem Y5 (c a b:Operand):lJ P md nid ops e ⟨d,.pick c a b,ty,p,af,none⟩ H=.op (yD (dZ e c) (dZ e a) (dZ e b) H):=rfl
@[go_sem] theorem XJ (t:TypeId):lJ P md nid ops e ⟨d,.alloc t,ty,p,af,none⟩ H=.op (vK P nid (Ea md d) t H):=rfl
@[go_sem] theorem ZQ (t:TypeId)(x:Operand):lJ P md nid ops e ⟨d,.box t x,ty,p,af,none⟩ H=.op (Kk P nid (Ea md d) t (dZ e x) H):=rfl
@[go_sem] theorem XH (t:TypeId)(ps:Array (Nat × Operand)):lJ P md nid ops e ⟨d,.build t ps,ty,p,af,none⟩ H=.op (q9 P t (ps.toList.map fun p=>(p.1,dZ e p.2)) H):=rfl
@[go_sem] theorem Yr (md:Nat→Bool)(H:AHeap)(d:D):PD md H d=if md 1000001 then d else gX H d:=rfl
@[go_sem] theorem Yq (md:Nat→Bool)(d:D):J7 md d=if md 1000001 then [] else dD d:=rfl
@[go_sem] theorem SM (t:TypeId)(n:Nat)(ps:Array (Nat × Operand)):lJ P md nid ops e ⟨d,.buildSlice t n ps,ty,p,af,none⟩ H =
  .op (if md 1000001 then gL P nid (Ea md d) t n (ps.toList.map fun p=>(p.1,dZ e p.2)) H else gL P nid (Ea md d) t n (ps.toList.map fun p=>(p.1,gX H (dZ e p.2))) (eP (ps.toList.flatMap fun p=>dD (dZ e p.2)) H)):=by
 show SOut.op (gL P nid (Ea md d) t n (ps.toList.map fun p=>(p.1,PD md H (dZ e p.2))) (eP (ps.toList.flatMap fun p=>J7 md (dZ e p.2)) H))=_
 congr 1
 cases h:md 1000001
 ·simp [PD,J7,h]
 ·simp only [PD,J7,h,if_true]
  rw [show (ps.toList.flatMap fun _=>([]:List Nat))=[] by induction ps.toList with|nil=>rfl|cons a l ih=>simp];rfl
@[go_sem] theorem Y7 (t:TypeId)(x:Operand):lJ P md nid ops e ⟨d,.load t x,ty,p,af,none⟩ H=.op (l6 P t (dZ e x) H):=rfl
@[go_sem] theorem XD (t:TypeId)(x y:Operand):lJ P md nid ops e ⟨d,.store t x y,ty,p,af,none⟩ H =
  .op (if md 1000000 then kD P t (dZ e x) (gX H (dZ e y)) (eP (dD (dZ e y)) H) else kD P t (dZ e x) (dZ e y) H):=rfl
@[go_sem] theorem Uf (x:Operand):lJ P md nid ops e ⟨d,.nilCheck x,ty,p,af,none⟩ H=.op (iL (dZ e x) H):=rfl
@[go_sem] theorem XI (b:BinOp)(t t':TypeId)(x y:Operand):lJ P md nid ops e ⟨d,.binOp b t x y t',ty,p,af,none⟩ H=.op (pU (md 2000000) P t b (dZ e x) (dZ e y) H):=rfl
@[go_sem] theorem Xy (w:Bool)(P:Program)(t:TypeId)(x y:D)(H:AHeap):pU w P t .add x y H=GY P t .add x y H:=by cases w<;>rfl
@[go_sem] theorem Xr (w:Bool)(P:Program)(t:TypeId)(x y:D)(H:AHeap):pU w P t .mul x y H=GY P t .mul x y H:=by cases w<;>rfl
@[go_sem] theorem Xo (w:Bool)(P:Program)(t:TypeId)(x y:D)(H:AHeap):pU w P t .quo x y H=GY P t .quo x y H:=by cases w<;>rfl
@[go_sem] theorem Xn (w:Bool)(P:Program)(t:TypeId)(x y:D)(H:AHeap):pU w P t .rem x y H=GY P t .rem x y H:=by cases w<;>rfl
@[go_sem] theorem Xw (w:Bool)(P:Program)(t:TypeId)(x y:D)(H:AHeap):pU w P t .eql x y H=GY P t .eql x y H:=by cases w<;>rfl
@[go_sem] theorem Xq (w:Bool)(P:Program)(t:TypeId)(x y:D)(H:AHeap):pU w P t .neq x y H=GY P t .neq x y H:=by cases w<;>rfl
@[go_sem] theorem Xs (w:Bool)(P:Program)(t:TypeId)(x y:D)(H:AHeap):pU w P t .lss x y H=GY P t .lss x y H:=by cases w<;>rfl
@[go_sem] theorem Xt (w:Bool)(P:Program)(t:TypeId)(x y:D)(H:AHeap):pU w P t .leq x y H=GY P t .leq x y H:=by cases w<;>rfl
@[go_sem] theorem Xu (w:Bool)(P:Program)(t:TypeId)(x y:D)(H:AHeap):pU w P t .gtr x y H=GY P t .gtr x y H:=by cases w<;>rfl
@[go_sem] theorem Xv (w:Bool)(P:Program)(t:TypeId)(x y:D)(H:AHeap):pU w P t .geq x y H=GY P t .geq x y H:=by cases w<;>rfl
@[go_sem] theorem Xx (w:Bool)(P:Program)(t:TypeId)(x y:D)(H:AHeap):pU w P t .and x y H=GY P t .and x y H:=by cases w<;>rfl
@[go_sem] theorem Xm (w:Bool)(P:Program)(t:TypeId)(x y:D)(H:AHeap):pU w P t .shr x y H=GY P t .shr x y H:=by cases w<;>rfl
@[go_sem] theorem Xp (P:Program)(t:TypeId)(op:BinOp)(x y:D)(H:AHeap):pU false P t op x y H=GY P t op x y H:=by cases op<;>cases x<;>cases y<;>rfl
@[go_sem] theorem Xl (P:Program)(t:TypeId)(k k':IntKind)(a b:Int)(H:AHeap):pU true P t .sub (.int k a) (.int k' b) H=⟨k=k',True,.int k (k.wrap (a - b)),H⟩:=rfl
@[go_sem] theorem Y4 (u:UnOp)(t:TypeId)(x:Operand):lJ P md nid ops e ⟨d,.unOp u t x,ty,p,af,none⟩ H=.op (Sn u (dZ e x) H):=rfl
@[go_sem] theorem Vl (s t:TypeId)(x:Operand):lJ P md nid ops e ⟨d,.convert s t x,ty,p,af,none⟩ H=.op (lF P s t (dZ e x) H):=rfl
@[go_sem] theorem Ug (f:FuncId)(caps:Array Operand):lJ P md nid ops e ⟨d,.makeFunc (.func f) #[] caps,ty,p,af,none⟩ H=.op ⟨True,True,.fn f (caps.toList.map (dZ e)),H⟩:=rfl
@[go_sem] theorem Tv (t:TypeId)(l c:Operand):lJ P md nid ops e ⟨d,.makeSlice t l c,ty,p,af,none⟩ H=.op (B1 P nid t (dZ e l) (dZ e c) H):=rfl
@[go_sem] theorem XE (t:TypeId)(x:Operand)(lo hi:Option Operand):lJ P md nid ops e ⟨d,.slice t x lo hi none,ty,p,af,none⟩ H=.op (n8 P t (dZ e x) (lo.map (dZ e)) (hi.map (dZ e)) H):=rfl
@[go_sem] theorem Tx (t:TypeId)(x:Operand)(f:Nat):lJ P md nid ops e ⟨d,.fieldAddr t x f,ty,p,af,none⟩ H=.op (gB P t (dZ e x) f H):=rfl
@[go_sem] theorem Tw (t:TypeId)(x i:Operand):lJ P md nid ops e ⟨d,.indexAddr t x i,ty,p,af,none⟩ H=.op (gA P t (dZ e x) (dZ e i) H):=rfl
@[go_sem] theorem XF (t:TypeId)(x i:Operand):lJ P md nid ops e ⟨d,.index t x i,ty,p,af,none⟩ H=.op (q8 P t (dZ e x) (dZ e i) H):=rfl
@[go_sem] theorem Vk (x:Operand)(i:Nat):lJ P md nid ops e ⟨d,.extract x i,ty,p,af,none⟩ H=.op (lE (dZ e x) i H):=rfl
@[go_sem] theorem Vm (b:Builtin)(args:Array Operand)(ts:Array TypeId):lJ P md nid ops e ⟨d,.call ⟨.builtin b,args,ts⟩,ty,p,af,none⟩ H=.op (uH P nid b (args.toList.map (dZ e)) ts.toList H):=rfl
@[go_sem] theorem Y8 (f:FuncId)(args:Array Operand)(ts:Array TypeId):lJ P md nid ops e ⟨d,.call ⟨.value (.func f),args,ts⟩,ty,p,af,none⟩ H=.call f (args.toList.map (dZ e)):=by
 simp [lJ,fN,dZ,Jk]
end
@[go_sem] theorem U8 (P:Program)(md:Nat→Bool)(ops:Array Oper)(rest:List Oper)(e:cX)(H:AHeap)(K:cX→AHeap→Prop)(d:Option Tmp)(op:Op)(ty:TypeId)(p:String)(af:Array Edge)(g:Option (Nat × Bool)) :
  lQ P md ops (⟨d,op,ty,p,af,g⟩ :: rest) e H K=xV P md ops rest e d H K (lJ P md H.next ops e ⟨d,op,ty,p,af,g⟩ H):=Q6 P md ops _ rest e H K
/-! ### code -/
section
variable (P:Program) (c:Cfg) (Q:Exit→cX→AHeap→Prop) (e:cX) (H:AHeap)
def v6 (P:Program)(c:Cfg)(a b:Code)(Q:Exit→cX→AHeap→Prop)(e:cX)(H:AHeap):D→Prop
 | .bool t=>(t=true→mN P c a Q e H)∧(t=false→mN P c b Q e H)
 | _=>False
def zY (P:Program)(c:Cfg)(b:Code)(Q:Exit→cX→AHeap→Prop)(e:cX)(H:AHeap):Prop:=mN P c (.loop b) Q e H
@[go_sem] theorem Yt:mN P c .skip Q e H=Q .normal e H:=rfl
@[go_sem] theorem V0 (id:Nat)(l:List Oper):mN P c (.region id l.toArray false) Q e H=lQ P c.own l.toArray l e H (Q .normal):=by
 simp [mN]
@[go_sem] theorem Yw (id:Nat)(l:List Oper):mN P c (.region id l.toArray true) Q e H=jQ P c.own l.toArray (c.sp id) H.next 0 l [] e ⟨H.next+l.length,H.al,H.get⟩ (Q .normal):=by
 simp [mN]
@[go_sem] theorem ZA (a b:Code):mN P c (.seq a b) Q e H=mN P c a (rH (mN P c b Q) Q) e H:=rfl
@[go_sem] theorem Yx (x:Operand)(a b:Code):mN P c (.cond x a b) Q e H=v6 P c a b Q e H (dZ e x):=rfl
@[go_sem] theorem XA (id:Nat)(b:Code):mN P c (.block id b) Q e H=mN P c b (AH id Q) e H:=rfl
@[go_sem] theorem Yu (b:Code):mN P c (.loop b) Q e H=zY P c b Q e H:=rfl
@[go_sem] theorem Yv (id:Nat):mN P c (.exit id) Q e H=Q (.exit id) e H:=rfl
@[go_sem] theorem ZB:mN P c .ret Q e H=Q .ret e H:=rfl
@[go_sem] theorem U2 (a b:Code):v6 P c a b Q e H (.bool true)=mN P c a Q e H:=by simp [v6]
@[go_sem] theorem TV (a b:Code):v6 P c a b Q e H (.bool false)=mN P c b Q e H:=by simp [v6]
@[go_sem] theorem SI (n:cX→AHeap→Prop):rH n Q .normal e H=n e H:=rfl
@[go_sem] theorem Vc (n:cX→AHeap→Prop):rH n Q .ret e H=Q .ret e H:=rfl
@[go_sem] theorem Ub (n:cX→AHeap→Prop)(i:Nat):rH n Q (.exit i) e H=Q (.exit i) e H:=rfl
@[go_sem] theorem Sz (i:Nat):AH i Q .normal e H=Q .normal e H:=rfl
@[go_sem] theorem U6 (i:Nat):AH i Q .ret e H=Q .ret e H:=rfl
@[go_sem] theorem MK (i j:Nat):AH i Q (.exit j) e H=if j=i then Q .normal e H else Q (.exit j) e H:=rfl
@[go_sem] theorem Wz (rs:List ResultVar)(R:D→AHeap→Prop):P1 P rs R .ret e H=BZ P rs e H fun l=>R (EH l) H:=rfl
@[go_sem] theorem Ty (rs:List ResultVar)(R:D→AHeap→Prop):P1 P rs R .normal e H=BZ P rs e H fun l=>R (EH l) H:=rfl
@[go_sem] theorem Xk (K:List D→Prop):BZ P [] e H K=K []:=rfl
@[go_sem] theorem Xj (t:Tmp)(r:List ResultVar)(K:List D→Prop):BZ P (.tmp t :: r) e H K=BZ P r e H fun l=>K (e t :: l):=rfl
@[go_sem] theorem VX (a:Tmp)(t:TypeId)(r:List ResultVar)(K:List D→Prop):BZ P (.cell a t :: r) e H K=((l6 P t (e a) H).cond∧BZ P r e H fun l=>K ((l6 P t (e a) H).val :: l)):=rfl
@[go_sem] theorem V6 (d:D):EH [d]=d:=rfl
end
attribute [go_sem] if_true if_false dX Bool.true_eq_false eq_self true_and and_true forall_const true_implies false_implies oH kP List.toList_toArray cZ Option.map_none
 List.flatMap_nil List.flatMap_cons iW eJ oL eH implies_true
attribute [go_sem] HI GY l6 kD dH gB gA Em jB nH B1 Kk vK q9 gL n8 q8 lF yD sX B0 iL Sn lE C9 uH sY qZ eP AOut.bad
 nA fD D.cells z7 BK.place Sv ite_self
@[go_sem] theorem Yi (id:Nat):AHeap.emp.get id=none:=rfl
@[go_sem] theorem WP:AHeap.emp.next=0:=rfl
@[go_sem] theorem W1 (H:AHeap)(i j:Nat)(k:Blk):(H.push i k).get j=if j=i then some k else H.get j:=rfl
@[go_sem] theorem Yg (H:AHeap)(i j:Nat)(k:Blk):(H.put i k).get j=if j=i then some k else H.get j:=rfl
@[go_sem] theorem VE (H:AHeap)(i:Nat)(k:Blk):(H.push i k).next=if i<H.next then H.next else i+1:=rfl
@[go_sem] theorem WN (H:AHeap)(i:Nat)(k:Blk):(H.put i k).next=H.next:=rfl
@[go_sem] theorem W2 (n:Nat)(al:Nat→Prop)(g:Nat→Option Blk)(j:Nat):(AHeap.mk n al g).get j=g j:=rfl
@[go_sem] theorem VF (n:Nat)(al:Nat→Prop)(g:Nat→Option Blk):(AHeap.mk n al g).next=n:=rfl
section
variable (H:AHeap)
@[go_sem] theorem Ww (k:IntKind)(n:Int):eK H (.int k n)=.int k n:=rfl
@[go_sem] theorem Vy (b:Bool):eK H (.bool b)=.bool b:=rfl
@[go_sem] theorem Wt (b:ByteArray):eK H (.str b)=.str b:=rfl
@[go_sem] theorem Wv:eK H .nil=.nil:=rfl
@[go_sem] theorem Vx (es:List (List D)):eK H (.list es)=.list es:=rfl
@[go_sem] theorem Wx (es:List D):eK H (.adr es)=.adr es:=rfl
@[go_sem] theorem Vv:eK H .nilp=.nilp:=rfl
@[go_sem] theorem Vw:eK H .nilf=.nilf:=rfl
@[go_sem] theorem XM (f:FuncId)(l:List D):eK H (.fn f l)=.fn f l:=rfl
@[go_sem] theorem Wu (id n:Nat):eK H (.own id n)=match H.get id with|some k=>if k.es.length=n then .list k.es else .own id n|none=>.own id n:=rfl
@[go_sem] theorem Ws (id n lo hi:Nat):eK H (.win id n lo hi)=match H.get id with|some k=>if k.es.length=n then .list ((k.es.take hi).drop lo) else .win id n lo hi|none=>.win id n lo hi:=rfl
@[go_sem] theorem Wk (id n lo hi:Nat):gX H (.win id n lo hi)=eK H (.win id n lo hi):=rfl
@[go_sem] theorem Wb (id n lo hi:Nat):oQ H (.win id n lo hi)=eK H (.win id n lo hi):=rfl
@[go_sem] theorem Wp (k:IntKind)(n:Int):gX H (.int k n)=.int k n:=rfl
@[go_sem] theorem Vu (b:Bool):gX H (.bool b)=.bool b:=rfl
@[go_sem] theorem Wl (b:ByteArray):gX H (.str b)=.str b:=rfl
@[go_sem] theorem Wo:gX H .nil=.nil:=rfl
@[go_sem] theorem Vt (es:List (List D)):gX H (.list es)=.list es:=rfl
@[go_sem] theorem Wr (es:List D):gX H (.adr es)=.adr es:=rfl
@[go_sem] theorem Vr:gX H .nilp=.nilp:=rfl
@[go_sem] theorem Vs:gX H .nilf=.nilf:=rfl
@[go_sem] theorem XL (f:FuncId)(l:List D):gX H (.fn f l)=.fn f l:=rfl
@[go_sem] theorem Wq (l:List D):gX H (.agg l)=.agg (l.map (eK H)):=rfl
@[go_sem] theorem Wn (id n:Nat):gX H (.own id n)=eK H (.own id n):=rfl
@[go_sem] theorem Wc (l:List D):oQ H (.tup l)=.tup (l.map (gX H)):=rfl
@[go_sem] theorem Wg (k:IntKind)(n:Int):oQ H (.int k n)=.int k n:=rfl
@[go_sem] theorem Vq (b:Bool):oQ H (.bool b)=.bool b:=rfl
@[go_sem] theorem Wd (b:ByteArray):oQ H (.str b)=.str b:=rfl
@[go_sem] theorem Wf:oQ H .nil=.nil:=rfl
@[go_sem] theorem Vp (es:List (List D)):oQ H (.list es)=.list es:=rfl
@[go_sem] theorem Wj (es:List D):oQ H (.adr es)=.adr es:=rfl
@[go_sem] theorem Vn:oQ H .nilp=.nilp:=rfl
@[go_sem] theorem Vo:oQ H .nilf=.nilf:=rfl
@[go_sem] theorem XK (f:FuncId)(l:List D):oQ H (.fn f l)=.fn f l:=rfl
@[go_sem] theorem Wi (l:List D):oQ H (.agg l)=.agg (l.map (eK H)):=rfl
@[go_sem] theorem We (id n:Nat):oQ H (.own id n)=eK H (.own id n):=rfl
end
@[go_sem] theorem WX (k:IntKind)(n:Int):jS (.int k n)=[]:=rfl
@[go_sem] theorem VL (b:Bool):jS (.bool b)=[]:=rfl
@[go_sem] theorem WU (b:ByteArray):jS (.str b)=[]:=rfl
@[go_sem] theorem WW:jS .nil=[]:=rfl
@[go_sem] theorem VK (es:List (List D)):jS (.list es)=[]:=rfl
@[go_sem] theorem WY (es:List D):jS (.adr es)=[]:=rfl
@[go_sem] theorem VI:jS .nilp=[]:=rfl
@[go_sem] theorem VJ:jS .nilf=[]:=rfl
@[go_sem] theorem X9 (f:FuncId)(l:List D):jS (.fn f l)=[]:=rfl
@[go_sem] theorem WT (id n lo hi:Nat):jS (.win id n lo hi)=[id]:=rfl
@[go_sem] theorem Ul (id n lo hi:Nat):dD (.win id n lo hi)=[id]:=rfl
@[go_sem] theorem WV (id n:Nat):jS (.own id n)=[id]:=rfl
@[go_sem] theorem Uq (k:IntKind)(n:Int):dD (.int k n)=[]:=rfl
@[go_sem] theorem TD (b:Bool):dD (.bool b)=[]:=rfl
@[go_sem] theorem Um (b:ByteArray):dD (.str b)=[]:=rfl
@[go_sem] theorem Up:dD .nil=[]:=rfl
@[go_sem] theorem TC (es:List (List D)):dD (.list es)=[]:=rfl
@[go_sem] theorem Us (es:List D):dD (.adr es)=[]:=rfl
@[go_sem] theorem TA:dD .nilp=[]:=rfl
@[go_sem] theorem TB:dD .nilf=[]:=rfl
@[go_sem] theorem VB (f:FuncId)(l:List D):dD (.fn f l)=[]:=rfl
@[go_sem] theorem Uo (id n:Nat):dD (.own id n)=[id]:=rfl
@[go_sem] theorem Ur (l:List D):dD (.agg l)=l.flatMap jS:=rfl
@[go_sem] theorem W4 (H:AHeap)(id:Nat):H.frz id=match H.get id with|some k=>H.put id { k with fz:=true } | none=>H:=rfl
@[go_sem] theorem WB (H:AHeap)(id:Nat)(k k':Blk):(H.push id k).put id k'=H.push id k':=by
 unfold AHeap.push AHeap.put
 congr 1
 funext i
 by_cases h:i=id<;>simp [h]
@[go_sem] theorem XO (H:AHeap)(id:Nat)(k k':Blk):(H.put id k).put id k'=H.put id k':=by
 unfold AHeap.put
 congr 1
 funext i
 by_cases h:i=id<;>simp [h]
section
variable {P:Program} {c:Cfg} {Q:Exit→cX→AHeap→Prop} {e:cX} {H:AHeap} {a b:Code}
theorem aK {t:Bool}(h1:t=true→mN P c a Q e H)(h2:t=false→mN P c b Q e H):v6 P c a b Q e H (.bool t):=⟨h1,h2⟩
theorem eW {p:Prop}[Decidable p](h1:p→mN P c a Q e H)(h2:¬ p→mN P c b Q e H):v6 P c a b Q e H (.bool (decide p)):=⟨fun h=>h1 (of_decide_eq_true h),fun h=>h2 (of_decide_eq_false h)⟩
end
attribute [irreducible] v6 gU xS zY
end Go.Abs
end
section
namespace Go.Abs
section
variable {P:Program} {c:Cfg} {md:Nat→Bool}
theorem GW {dr : Option Nat} {nid : Nat} {ops : Array Oper} {e : cX} {o : Oper} {H : AHeap} {K K' : D → AHeap → List Nat → Prop} (hk : ∀ v H F, K v H F → K' v H F) (h : nF P md dr nid ops e o H K) : nF P md dr nid ops e o H K' := by
  unfold nF at h ⊢
  cases hg : o.guard with
  | none =>
    simp only [hg] at h ⊢
    cases hc : fN e o with
    | none => simp only [hc] at h ⊢; exact ⟨h.1, fun hf => hk _ _ _ (h.2 hf)⟩
    | some p =>
      obtain ⟨f, args⟩ := p
      simp only [hc] at h ⊢
      cases dr with
      | none => exact h.mono fun _ _ h => hk _ _ _ h
      | some m =>
        rcases h with ⟨r, S, h1, h2⟩ | ⟨hmd, r, S, u, q, hu, hq, h1, h2⟩
        · exact .inl ⟨r, S, h1, hk _ _ _ h2⟩
        · exact .inr ⟨hmd, r, S, u, q, hu, hq, h1, hk _ _ _ h2⟩
  | some p =>
    obtain ⟨j, b⟩ := p
    simp only [hg] at h ⊢
    cases hgd : gD ops e j with
    | none => simp only [hgd] at h
    | some gc =>
      obtain ⟨g, c'⟩ := gc
      simp only [hgd] at h ⊢
      refine ⟨h.1, ?_⟩
      have h2 := h.2
      cases hc : fN (gE e o.op) o with
      | none => simp only [hc] at h2 ⊢; exact ⟨h2.1, fun hf => hk _ _ _ (h2.2 hf)⟩
      | some p =>
        obtain ⟨f, args⟩ := p
        simp only [hc] at h2 ⊢
        cases dr with
        | some _ => obtain ⟨r, S, h3, h4⟩ := h2; exact ⟨r, S, h3, hk _ _ _ h4⟩
        | none =>
          rcases h2 with ⟨r, S, h3, h4⟩ | ⟨h3, h4⟩
          · exact .inl ⟨r, S, h3, hk _ _ _ h4⟩
          · exact .inr ⟨fun hq => (h3 hq).mono fun _ _ h => hk _ _ _ h, fun hq => (h4 hq).imp fun _ h => hk _ _ _ h⟩
theorem IZ {ops:Array Oper}{K K':cX→AHeap→Prop}(hk:∀ e H,K e H→K' e H):∀ (l:List Oper) (e:cX) (H:AHeap),lQ P md ops l e H K→lQ P md ops l e H K'
 | [],e,H,h=>hk _ _ h
 | o :: l,e,H,h=>by
  unfold lQ at h ⊢
  exact GW (fun v H' _ h=>IZ hk l _ _ h) h
theorem GZ {ops:Array Oper}{sp:List (Nat × Nat)}{n0:Nat}{K K':cX→AHeap→Prop}(hk:∀ e H,K e H→K' e H):∀ (l:List Oper) (i:Nat) (acc:List (Nat × List Nat)) (e:cX) (H:AHeap),
  jQ P md ops sp n0 i l acc e H K→jQ P md ops sp n0 i l acc e H K'
 | [],i,acc,e,H,h=>by unfold jQ at h ⊢;exact hk _ _ h
 | o :: l,i,acc,e,H,h=>by
  unfold jQ at h ⊢
  exact GW (fun v H' _ h=>⟨h.1,GZ hk l _ _ _ _ h.2⟩) h
theorem uM {n n':cX→AHeap→Prop}{Q Q':Exit→cX→AHeap→Prop}(hn:∀ e H,n e H→n' e H)(hq:∀ x e H,Q x e H→Q' x e H):∀ x e H,rH n Q x e H→rH n' Q' x e H:=by
 intro x e H h
 cases x<;>first|exact hn _ _ h|exact hq _ _ _ h
theorem MJ {i:Nat}{Q Q':Exit→cX→AHeap→Prop}(hq:∀ x e H,Q x e H→Q' x e H):∀ x e H,AH i Q x e H→AH i Q' x e H:=by
 intro x e H h
 cases x<;>first|exact hq _ _ _ h|skip
 rename_i j
 rw [MK] at h ⊢
 split at h
 ·rename_i hj;rw [if_pos hj];exact hq _ _ _ h
 ·rename_i hj;rw [if_neg hj];exact hq _ _ _ h
theorem oZ:∀ (x:Code) {Q Q':Exit→cX→AHeap→Prop} (hq:∀ x e H,Q x e H→Q' x e H) (e:cX) (H:AHeap),mN P c x Q e H→mN P c x Q' e H
 | .skip,Q,Q',hq,e,H,h=>hq _ _ _ h
 | .region id ops dr,Q,Q',hq,e,H,h=>by
  unfold mN at h ⊢
  cases dr with
  | false=>simp only [dX,if_false] at h ⊢;exact IZ (fun e H h=>hq _ _ _ h) _ _ _ h
  | true=>simp only [if_true] at h ⊢;exact GZ (fun e H h=>hq _ _ _ h) _ _ _ _ _ h
 | .seq a b,Q,Q',hq,e,H,h=>by
  unfold mN at h ⊢
  exact oZ a (uM (fun e H h=>oZ b hq e H h) hq) e H h
 | .cond x a b,Q,Q',hq,e,H,h=>by
  unfold mN at h ⊢
  cases hv:dZ e x<;>simp only [hv] at h ⊢<;>try (exact h.elim)
  exact ⟨fun ht=>oZ a hq e H (h.1 ht),fun ht=>oZ b hq e H (h.2 ht)⟩
 | .block id b,Q,Q',hq,e,H,h=>by
  unfold mN at h ⊢
  exact oZ b (MJ hq) e H h
 | .loop b,Q,Q',hq,e,H,h=>by
  unfold mN at h ⊢
  obtain ⟨I,h0,hI⟩:=h
  exact ⟨I,h0,fun k e' H' hi=>oZ b (uM (fun _ _ h=>h) hq) _ _ (hI k e' H' hi)⟩
 | .exit id,Q,Q',hq,e,H,h=>hq _ _ _ h
 | .ret,Q,Q',hq,e,H,h=>hq _ _ _ h
 | .rangeFunc ..,Q,Q',hq,e,H,h=>h.elim
 | .scope ..,Q,Q',hq,e,H,h=>h.elim
 | .label ..,Q,Q',hq,e,H,h=>h.elim
 | .goto ..,Q,Q',hq,e,H,h=>h.elim
 | .refuse ..,Q,Q',hq,e,H,h=>h.elim
theorem eO {b:Code}{Q:Exit→cX→AHeap→Prop}{e:cX}{H:AHeap}{ι:Type}(I:ι→cX→AHeap→Prop)(μ:ι→Nat)(x0:ι)(h0:I x0 e H)
  (hs:∀ x e H,I x e H→mN P c b (rH (fun e' H'=>∃ x',μ x'<μ x∧I x' e' H') Q) e H):zY P c b Q e H:=by
 unfold zY mN
 refine ⟨fun k e H=>∃ x,μ x=k∧I x e H,⟨H,.refl H,_,x0,rfl,h0⟩,fun k e' H' ⟨x,hk,hx⟩=>oZ b (uM (fun e'' H'' ⟨x',hlt,hx'⟩=>⟨H'',.refl _,_,hk ▸ hlt,x',rfl,hx'⟩) fun _ _ _ h=>h) _ _ (hs x e' H' hx)⟩
theorem Br {b:Code}{Q:Exit→cX→AHeap→Prop}{e:cX}{H H':AHeap}(hg:Ghosts H H'){ι:Type}(I:ι→cX→AHeap→Prop)(μ:ι→Nat)(x0:ι)(h0:I x0 e H')
  (hs:∀ x e H,I x e H→mN P c b (rH (fun e' H'=>∃ H3,Ghosts H' H3∧∃ x',μ x'<μ x∧I x' e' H3) Q) e H):zY P c b Q e H:=by
 unfold zY mN
 refine ⟨fun k e H=>∃ x,μ x=k∧I x e H,⟨H',hg,_,x0,rfl,h0⟩,fun k e' H' ⟨x,hk,hx⟩=>oZ b (uM (fun e'' H'' ⟨H3,hg3,x',hlt,hx'⟩=>⟨H3,hg3,_,hk ▸ hlt,x',rfl,hx'⟩) fun _ _ _ h=>h) _ _ (hs x e' H' hx)⟩
theorem aB {ops:Array Oper}{rest:List Oper}{e:cX}{dst:Option Tmp}{K:cX→AHeap→Prop}{f:FuncId}{args:List D}{H:AHeap}{r:D}(hp:Pure P f args r)(hcl:D.clL args=true)
  (h:lQ P md ops rest (nK e dst r) H K):gU P md ops rest e dst K f args H:=by unfold gU;exact pV hp hcl h
theorem gK {ops:Array Oper}{rest:List Oper}{e:cX}{dst:Option Tmp}{K:cX→AHeap→Prop}{f:FuncId}{args args':List D}{H:AHeap}{r:D}(hp:Pure P f args' r)(ha:args.map (gX H)=args')(hcl:D.clL args'=true)(hf:r.flat=true)
  (h:lQ P md ops rest (nK e dst r) H K):gU P md ops rest e dst K f args H:=by subst ha;unfold gU;exact vN hp hcl hf h
theorem DT {ops:Array Oper}{rest:List Oper}{e:cX}{dst:Option Tmp}{K:cX→AHeap→Prop}{f:FuncId}{args args':List D}{H H':AHeap}{r:D}(hp:Pure P f args' r)(ha:args.map (gX H)=args')(hcl:D.clL args'=true)
  (hz:eP (args.flatMap dD) H=H') (h:lQ P md ops rest (nK e dst r) H' K):gU P md ops rest e dst K f args H:=by subst ha;subst hz;unfold gU;exact Kp hp hcl h
theorem lA {ops:Array Oper}{rest:List Oper}{e:cX}{dst:Option Tmp}{K:cX→AHeap→Prop}{f:FuncId}{args:List D}{H:AHeap}{ty:TypeId}{sz:Nat}{es:List (List D)}(hp:Own P f args ty sz es)(hcl:D.clL args=true)
  (h:lQ P md ops rest (nK e dst (.own H.next es.length)) (H.push H.next ⟨ty,sz,es,false⟩) K):gU P md ops rest e dst K f args H:=by unfold gU;exact M6 hp hcl h
end
end Go.Abs
end
