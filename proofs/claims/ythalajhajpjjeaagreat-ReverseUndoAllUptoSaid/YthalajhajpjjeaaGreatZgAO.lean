/- Patterns and their matches: what reading values asks. · Laye -/
import Derived.Test.YthalajhajpjjeaaGreatZgAM
import Derived.Test.YthalajhajpjjeaaGreatZgAN
import Derived.Test.YthalajhajpjjeaaGreatZgAF
import Derived.Test.YthalajhajpjjeaaGreatZgAA
import Derived.Test.YthalajhajpjjeaaGreatZgAK
set_option linter.unusedVariables false
set_option linter.unusedSimpArgs false
section
set_option maxRecDepth 100000
set_option maxHeartbeats 4000000
open Go Go.Proofs
namespace Go.Abs
theorem ML {α:Type}{f:α->Int}{m:Int}(h0:(0:Int)≠m)(h:∀ x,f x≠m):∀ l,gK f l≠m
 | []=>h0
 | x :: l=>by
  simp only [gK];split
  .exact h x
  .exact ML h0 h l
theorem Qt (n:Int)(l:List Test):lE n l≠9:=by
 unfold lE
 split
 .decide
 .split
  .decide
  .refine ML (by decide) (λx=>?_) l
   unfold tD;split
   .decide
   .split<;>decide
structure PatOk (t:Types) (q:Pattern):Prop where
 vf:(b9 t).2=0
 gg:graphF q.graph=0
 ty:iB t q.graph=true
 vars:0<=q.vars/\q.vars<=12
 few:q.slots.length<=10/\q.tests.length<=10
 slot:∀ s∈q.slots,gJ t q s=0
 test:∀ x∈q.tests,tD q.vars x=0
theorem Ms {t:Types}{q:Pattern}(h:c6 t q=9\/c6 t q=0):PatOk t q:=by
 have i:=kQ h
 have k:=Ir t
 have l:graphF q.graph≠9:=by
  unfold graphF;repeat' split
  all_goals decide
 have j:=Qt q.vars q.tests
 unfold c6 at h
 by_cases g:(b9 t).2=0
 .rw [if_neg aD] at h
  by_cases f:graphF q.graph=0
  .rw [if_neg aD] at h
   by_cases b:iB t q.graph=false
   .rw [if_pos b] at h;omega
   .rw [if_neg b] at h
    by_cases e:inF q.vars 0 12=false
    .rw [if_pos e] at h;omega
    .rw [if_neg e] at h
     by_cases d:10<q.slots.length\/10<q.tests.length
     .rw [if_pos d] at h;omega
     .rw [if_neg d] at h
      by_cases c:gK (gJ t q) q.slots=0
      .rw [if_neg aD] at h
       by_cases a:lE q.vars q.tests=0
       .refine ⟨g,f,by simpa using b,i,aD,pV c,pV ?_⟩
        unfold lE at a
        split at a
        .cases a
        .split at a
         .cases a
         .exact a
       .rw [if_pos a] at h;omega
      .rw [if_pos c] at h;omega
  .rw [if_pos f] at h;omega
 .rw [if_pos g] at h;omega
theorem LE {n:Int}{x:Term}(h:termB n x=true)(hn:0<=n):pL x n.toNat:=by
 simp only [termB,aQ,decide_eq_true_eq] at h
 exact ⟨⟨aD,aD⟩,aD,aD⟩
theorem PatOk.tests {t:Types}{q:Pattern}(hp:PatOk t q):∀ x∈q.tests,Hm x q.vars.toNat:=λx hx=>by
 have:=hp.test x hx
 unfold tD at this
 split at this
 .cases this
 .rename_i h1
  split at this
  .rename_i h2
   rw [aQ] at h2
   exact ⟨aD,LE h2.1 hp.vars.1,LE h2.2 hp.vars.1⟩
  .cases this
theorem PatOk.slots {t:Types}{q:Pattern}(hp:PatOk t q):∀ s∈q.slots,(0<=s.node/\s.node<q.graph.nodes.length)/\(0<=s.attr/\s.attr<(bM t (q.graph.nodes[s.node.toNat]?.getD 0)).length)/\pL s.term q.vars.toNat:=λs hs=>by
 have:=hp.slot s hs
 have hv:=hp.vars
 unfold gJ at this
 split at this
 .rename_i h1
  simp only [aQ,lV,decide_eq_true_eq,inF,Pattern.kind] at h1
  exact ⟨h1.1.1.1,⟨h1.1.1.2.1,of_decide_eq_true h1.1.1.2.2⟩,⟨aD,aD⟩,aD,aD⟩
 .cases this
structure MOk (t:Types) (p g:Graph) (m:Part):Prop where
 len:m.nodes.length=p.nodes.length
 elen:m.edges.length=p.edges.length
 img:∀ (i:Nat) (hi:i<m.nodes.length) (hp:i<p.nodes.length),(0<=m.nodes[i]/\m.nodes[i]<g.nodes.length)/\wT t p.nodes[i] (g.nodes[m.nodes[i].toNat]?.getD 0)=true
 eimg:∀ (i:Nat) (hi:i<m.edges.length),0<=m.edges[i]/\m.edges[i]<g.edges.length
theorem sI {t:Types}{p g:Graph}{m:Part}{b:Bool}(h:iX t p g m b=0):MOk t p g m:=by
 obtain ⟨⟨j,f⟩,e,d⟩:=zY h
 refine ⟨j,f,λi a c=>⟨e _ (aC a),?_⟩,λi a=>d _ (aC a)⟩
 unfold iX at h
 rw [if_neg aD] at h
 split at h
 .exact absurd h (by assumption)
 .rename_i h5
  have:=eP _ _ (bX h5) i (dY _) aD
  unfold I9 at this
  rw [aA a,aA c,Option.getD_some,Option.getD_some] at this
  split at this
  .cases this
  .split at this
   .assumption
   .cases this
theorem M6 {S:Srch}{ns:List Int}:∀ (d:Nat) (l es:List Int),es∈EG S ns d l->es.length=l.length+d/\(∀ x∈l,0<=x/\x<S.g.edges.length->True)/\((∀ x∈l,0<=x/\x<S.g.edges.length)->∀ x∈es,0<=x/\x<S.g.edges.length)
 | 0,l,es,h=>by
  simp only [EG,bL] at h;subst h
  exact ⟨rfl,λ_ _ _=>trivial,λh=>h⟩
 | d+1,l,es,h=>by
  simp only [EG,bT,g6,bK] at h
  obtain ⟨k,⟨hk,_⟩,hr⟩:=h
  obtain ⟨h1,_,h3⟩:=M6 d _ es hr
  refine ⟨by simp at h1;omega,λ_ _ _=>trivial,λhl=>h3 λx hx=>?_⟩
  rw [aW,bL] at hx
  rcases hx with hx|rfl
  .exact hl x hx
  .omega
theorem M5 {S:Srch}:∀ (d:Nat) (l:List Int) (m:Part),m∈Cp S d l->m.nodes.length=l.length+d/\∀ i,l.length<=i->i<l.length+d->∃ k:Nat,m.nodes[i]?=some (k:Int)/\k<S.g.nodes.length/\wT S.t (S.p.nodes[i]?.getD 0) (S.g.nodes[k]?.getD 0)=true
 | 0,l,m,h=>by
  simp only [Cp,bB] at h
  obtain ⟨es,_,rfl⟩:=h
  exact ⟨rfl,λi h1 h2=>by omega⟩
 | d+1,l,m,h=>by
  have h':=h
  simp only [Cp,bT,g6,bK] at h
  obtain ⟨k,⟨hk,ho⟩,hr⟩:=h
  obtain ⟨h1,h2⟩:=M5 d _ m hr
  simp at h1 h2
  refine ⟨aD,λi h3 h4=>?_⟩
  by_cases hi:i=l.length
  .subst hi
   obtain ⟨⟨r,hr2⟩,_⟩:=zE d _ m hr
   refine ⟨k,by rw [hr2];simp,hk,?_⟩
   simp only [IQ,aQ] at ho
   exact ho.2.2
  .exact h2 i aD aD
theorem SZ {S:Srch}{m:Part}(h:m∈Bq S):MOk S.t S.p S.g m:=by
 unfold Bq at h
 obtain ⟨f,e⟩:=M5 _ _ m h
 obtain ⟨_,q⟩:=zE _ _ m h
 obtain ⟨d,_,o⟩:=M6 _ _ _ q
 simp at f e d
 refine ⟨f,d,λi a l=>?_,λi a=>o (by intro x j;cases j) _ (aC a)⟩
 obtain ⟨k,c,r,b⟩:=e i aD
 rw [aA a] at c
 have n:m.nodes[i]=(k:Int):=Option.some.inj c
 rw [aA l,Option.getD_some] at b
 rw [n]
 exact ⟨aD,by simpa using b⟩
theorem D9 {t:Types}{h:Host}(ho:HostOk t h):∀ a∈h.graph.nodes,0<=a/\a<t.nodes.length:=λa ha=>by
 obtain ⟨i,hi,rfl⟩:=aO ha
 have:=ho.vl
 exact ⟨((eK ho.gg).1 _ ha).1,(sN (ho.nd i hi aD)).1⟩
theorem US {t:Types}{q:Pattern}{h:Host}{m:Part}(hp:PatOk t q)(ho:HostOk t h)(hm:MOk t q.graph h.graph m):SOk q h m where
 vars:=hp.vars
 node s hs:=by have:=hp.slots s hs;have:=hm.len;omega
 img k hk:=by
  obtain ⟨i,hi,rfl⟩:=aO hk
  have:=(hm.img i hi (by have:=hm.len;omega)).1
  have:=ho.vl
  omega
 attr s hs:=by
  obtain ⟨h1,h2,_⟩:=hp.slots s hs
  have hl:=hm.len
  have hi:s.node.toNat<m.nodes.length:=aD
  have hq:s.node.toNat<q.graph.nodes.length:=aD
  obtain ⟨h3,h4⟩:=hm.img _ hi hq
  have hvl:=ho.vl
  have hk:m.nodes[s.node.toNat].toNat<h.graph.nodes.length:=aD
  have hkv:m.nodes[s.node.toNat].toNat<h.values.length:=aD
  rw [aA hi,Option.getD_some,aA hkv,Option.getD_some]
  rw [aA hq,Option.getD_some] at h2
  rw [aA hk,Option.getD_some] at h4
  have ha:=(n8 hp.gg hp.ty).1 _ (aC hq)
  have hb:=D9 ho _ (aC hk)
  rw [r5 hp.vf ha.1 ha.2] at h2
  have hrow:=(sN (ho.nd _ hk hkv)).2.2.1
  rw [r5 hp.vf hb.1 hb.2] at hrow
  unfold wT at h4
  obtain ⟨r,hr⟩:=JD (nP hp.vf) (h.graph.nodes[m.nodes[s.node.toNat].toNat]).toNat aD (q.graph.nodes[s.node.toNat]).toNat (by rw [Int.toNat_of_nonneg ha.1];exact h4)
  rw [hr,aL] at hrow
  omega
 small l hl v hv:=(ho.row l hl).2 v hv
 term s hs:=(hp.slots s hs).2.2
 test:=hp.tests
/-! ### values -/
def JT (p:Pattern)(vs:List Int):List Int × List Bool:=(vs++List.replicate (p.vars.toNat - vs.length) 0,List.replicate vs.length true++List.replicate (p.vars.toNat - vs.length) false)
theorem ET (p:Pattern):JT p []=(List.replicate p.vars.toNat 0,List.replicate p.vars.toNat false):=by simp [JT]
theorem eF {p:Pattern}{h:Host}{m:Part}{vs:List Int}(a:jA h m (JT p vs) p.slots=none):fB p h m vs=([],11):=by
 unfold fB;unfold JT at a;rw [a]
theorem oT {p:Pattern}{h:Host}{m:Part}{vs:List Int}{q:List Int × List Bool}(a:jA h m (JT p vs) p.slots=some q):fB p h m vs=if p.tests.all (λx=>Aj x q.1)=true then (q.1,0) else ([],16):=by
 unfold fB;unfold JT at a;rw [a]
structure StOk (n:Nat) (st:List Int × List Bool):Prop where
 l1:st.1.length=n
 l2:st.2.length=n
 sm:∀ v∈st.1,-2000000<=v/\v<=2000000
theorem StOk.big {n:Nat}{st:List Int × List Bool}(h:StOk n st):Sm st.1:=λv hv=>by have:=h.sm v hv;omega
theorem LG {p:Pattern}{vs:List Int}(b:0<=p.vars)(c:vs.length<=p.vars.toNat)(a:∀ v∈vs,-2000000<=v/\v<=2000000):StOk p.vars.toNat (JT p vs):=by
 refine ⟨by simp [JT];omega,by simp [JT];omega,λv h=>?_⟩
 simp only [JT,aW,List.mem_replicate] at h
 rcases h with h|h
 .exact a v h
 .omega
theorem yD {n:Nat}{h:Host}{m:Part}{b:List Int × List Bool}{s:Slot}(a:StOk n b)(f : -1000000<=lT h m s/\lT h m s<=1000000)(d:pL s.term n):StOk n (l3 h m b s):=by
 unfold l3
 split
 .refine ⟨by simp [a.l1],by simp [a.l2],λv c=>?_⟩
  rcases mW c with e|rfl
  .exact a.sm v e
  .have:=d.2;omega
 .exact a
theorem SOk.have_ {p:Pattern}{h:Host}{m:Part}(d:SOk p h m){s:Slot}(e:s∈p.slots) : -1000000<=lT h m s/\lT h m s<=1000000:=by
 have g:=d.node s e
 have a:s.node.toNat<m.nodes.length:=aD
 have i:=d.img _ (aC a)
 have b:(m.nodes[s.node.toNat]).toNat<h.values.length:=aD
 have f:=d.attr s e
 unfold lT
 rw [aA a,Option.getD_some,aA b,Option.getD_some] at f ⊢
 have c:s.attr.toNat<(h.values[(m.nodes[s.node.toNat]).toNat]).length:=aD
 rw [aA c]
 exact d.small _ (aC b) _ (aC c)
theorem Iz {p:Pattern}{h:Host}{m:Part}(hO:SOk p h m):∀ (l:List Slot) (st q:List Int × List Bool),(∀ s∈l,s∈p.slots)->StOk p.vars.toNat st->jA h m st l=some q->StOk p.vars.toNat q
 | [],st,q,_,hst,hq=>by simp only [jA,bF] at hq;exact hq ▸ hst
 | s :: l,st,q,hl,hst,hq=>by
  simp only [jA] at hq
  split at hq
  .have hs:=hl s (fN ..)
   exact Iz hO l _ q (λx hx=>hl x (dC _ hx)) (yD hst (hO.have_ hs) (hO.term s hs)) hq
  .cases hq
theorem AR {p:Pattern}{h:Host}{m:Part}(d:SOk p h m){vs:List Int}(f:vs.length<=p.vars.toNat)(e:∀ v∈vs,-2000000<=v/\v<=2000000)(a:(fB p h m vs).2=0) :
  (fB p h m vs).1.length=p.vars.toNat/\∀ v∈(fB p h m vs).1,-2000000<=v/\v<=2000000:=by
 cases b:jA h m (JT p vs) p.slots with
 | none=>rw [eF b] at a;cases a
 | some q =>
  have c:=Iz d _ _ _ (λ_ h=>h) (LG d.vars.1 f e) b
  rw [oT b] at a ⊢
  split at a
  .rename_i h1;rw [if_pos h1];exact ⟨c.l1,c.sm⟩
  .cases a
theorem vW (q:Pattern)(h:Host)(a:List Int)(l:List Part)(x:Part):At q h a (l++[x])=At q h a l++if (fB q h x a).2=0 then [⟨x,(fB q h x a).1⟩] else []:=by
 unfold At
 rw [List.filterMap_append]
 congr 1
 simp only [List.filterMap_cons,List.filterMap_nil]
 split<;>simp_all
theorem j7 (o:Option Bool):(Option.map cB o).getD [D.bool false]=cB (o.getD false):=by cases o<;>rfl
theorem Kn (p:Pattern)(h:Host)(m:Part)(hO:SOk p h m):Pure Tryz.prog 249 [p.d,h.d,m.d] (.tup [dLI (fB p h m []).1,dI (fB p h m []).2]):=by
 have hv:=hO.vars
 have h0:=LG (vs:=[]) hv.1 bW bW
 rw [ET] at h0
 refine Tz.pK ⟨λt=>t==11,λ_=>[]⟩ Tryz.func249 rfl (λQ hQ=>?_)
 have Y:=wa @Pattern.d.eq_1 (wa @Pattern.c.eq_1 (wa @Host.d.eq_1 (wa @Host.c.eq_1 (wa @Part.d.eq_1 (wa @Part.c.eq_1 @Term.c.eq_1)))))
 refine wp (h:=bD (λi e H=>∃ st:List Int × List Bool,(e 3=.adr p.c/\e 4=.adr h.c/\e 5=.adr m.c/\e 8=.own 0 p.vars.toNat/\e 9=.own 1 p.vars.toNat/\e 10=dI i)/\(H.get 0=some ⟨3,1,st.1.map cI,false⟩)/\(0<H.next)/\(H.get 1=some ⟨4,1,st.2.map cB,false⟩)/\(1<H.next)/\(i<=p.slots.length)/\(StOk p.vars.toNat st)/\(jA h m (JT p []) (p.slots.take i)=some st)) (λi=>p.slots.length - i) 0 ⟨((List.replicate p.vars.toNat 0,List.replicate p.vars.toNat false)),wg,(by simp [go_sem,cI]),wn,(by simp [go_sem,cB]),wn,wi,(by exact h0),(by rw [ET];rfl)⟩ λI0 hI0 i e H hi0=>?_)
 obtain ⟨st,E0,g0_0,n0_0,g1_0,n1_0,hi,hst,hsl⟩:=hi0
 have Y:=wa Y (wa E0 (wa g0_0 (wa (b8 n0_0) (wa g1_0 (b8 n1_0)))))
 refine wv (h:=?_)
 repeat first|intro _|refine ⟨eL,?_⟩
 refine wq (λh4=>?_) λh4=>?_
 .obtain ⟨x,hx⟩:=cW (p.slots[i])
  have hxm:x∈p.slots:=hx ▸ aC h4
  have hn:=hO.node x hxm
  have hn2:x.node.toNat<m.nodes.length:=aD
  have hk:=hO.img _ (aC hn2)
  have hk2:(m.nodes[x.node.toNat]).toNat<h.values.length:=aD
  have ha:=hO.attr x hxm
  rw [aA hn2,Option.getD_some,aA hk2,Option.getD_some] at ha
  have ha2:x.attr.toNat<(h.values[(m.nodes[x.node.toNat]).toNat]).length:=aD
  have hV:lT h m x=h.values[(m.nodes[x.node.toNat]).toNat][x.attr.toNat]:=by unfold lT;rw [aA hn2,Option.getD_some,aA hk2,Option.getD_some,aA ha2];rfl
  have hb:=hO.have_ hxm
  have hT:=hO.term x hxm
  have hl1:=hst.l1
  have hl2:=hst.l2
  have hTv:=hT.1
  have hTa:=hT.2
  have hSt:=tE h4 hsl
  rw [<- hx] at hSt
  obtain ⟨s2,hs2e⟩:∃ y,y=l3 h m st x:=⟨_,rfl⟩
  have hs2:StOk p.vars.toNat s2:=hs2e ▸ yD hst hb hT
  rw [<- hs2e] at hSt
  have hs2n:¬ 0<=x.term.var->s2=st:=λhn=>by rw [hs2e];unfold l3 kY;rw [if_neg (by simp [hn])]
  have vlt:0<=x.term.var->x.term.var.toNat<st.2.length:=λhn=>by omega
  obtain ⟨kb,hkb⟩:=cW (st.2[x.term.var.toNat]?.getD false)
  have hcase:0<=x.term.var\/(¬ 0<=x.term.var/\st.2[x.term.var.toNat]?=none)\/(¬ 0<=x.term.var/\st.2[x.term.var.toNat]?=some kb):=by
   by_cases hsp:0<=x.term.var
   .exact .inl hsp
   .right
    cases ho:st.2[x.term.var.toNat]? with
    | none=>exact .inl ⟨hsp,rfl⟩
    | some b=>rw [ho] at hkb;exact .inr ⟨hsp,by rw [hkb];rfl⟩
  rcases hcase with hc|hc|hc
  .have Y:=wa Y (wa h4 (wa (aA h4) (wa (Eq.symm hx) (wa (aA hn2) (wa (aA hk2) (wa (aA ha2) (wa (Eq.symm hV) (wa @Slot.c.eq_1 (wa @cL.eq_1 (wa hl1 (wa hl2 (wa @j7 (wa @cB.eq_1 (wa hc ((aA (vlt hc)))))))))))))))))
   refine wv (h:=?_)
   repeat first|intro _|refine ⟨eL,?_⟩
   refine wq (λh9=>?_) λh9=>?_
   .have hF:kY st x=true:=by simp only [kY,aQ,decide_eq_true_eq,c9];exact ⟨hc,by simpa [aA (vlt hc)] using h9⟩
    unfold l3 at hs2e
    rw [if_pos hF] at hs2e
    have hvl:x.term.var.toNat<st.1.length:=aD
    have e1:s2.1.map cI=(st.1.map cI).set x.term.var.toNat (cI (lT h m x - x.term.add)):=by rw [hs2e,bY]
    have e2:s2.2.map cB=(st.2.map cB).set x.term.var.toNat (cB true):=by rw [hs2e,bY]
    have ecl:D.clLL ((st.1.map cI).set x.term.var.toNat [D.int .i64 (lT h m x - x.term.add)])=true:=by have:=qK s2.1;rw [e1] at this;exact this
    have Y:=wa Y (wa e1 (wa e2 (wa @dLI.eq_1 (wa @cI.eq_1 (wa (aA hvl) ecl)))))
    refine wp (h:=dX (qQ x.term s2.1 (by rw [hs2.l1];exact hT) hs2.big) wr wl rfl ?_)
    refine wv (h:=?_)
    repeat first|intro _|refine ⟨eL,?_⟩
    refine wq (λh12=>?_) λh12=>?_
    .have hR:=eF (hSt.2 (by first|simpa using h12|simpa [hs2n hc.1] using h12|simpa [hs2e] using h12))
     exact wv (h:=hQ _ _ (by simp [go_sem,hR]))
    .have hstep:=hSt.1 (by first|simpa using h12|simpa [hs2n hc.1] using h12|simpa [hs2e] using h12)
     exact wp (h:=wx hI0 (i+1) ⟨s2,wg,(by simp [go_sem,Y]),wn,(by simp [go_sem,Y]),wn,wj,(by exact hs2),(by exact hstep)⟩)
   .have hF:¬ kY st x=true:=by simp only [kY,aQ,decide_eq_true_eq,c9];rintro ⟨_,hk⟩;simp [aA (vlt hc)] at hk;simp [hk] at h9
    unfold l3 at hs2e
    rw [if_neg hF] at hs2e
    have Y:=wa Y hs2e
    refine wv (h:=dX (qQ x.term s2.1 (by rw [hs2.l1];exact hT) hs2.big) wr wl rfl ?_)
    refine dP (λh12=>?_) λh12=>?_
    .have hR:=eF (hSt.2 (by first|simpa using h12|simpa [hs2n hc.1] using h12|simpa [hs2e] using h12))
     exact wv (h:=hQ _ _ (by simp [go_sem,hR]))
    .have hstep:=hSt.1 (by first|simpa using h12|simpa [hs2n hc.1] using h12|simpa [hs2e] using h12)
     exact wp (h:=wx hI0 (i+1) ⟨s2,wg,(by simp [go_sem,Y]),wn,(by simp [go_sem,Y]),wn,wj,(by exact hs2),(by exact hstep)⟩)
  .have Y:=wa Y (wa h4 (wa (aA h4) (wa (Eq.symm hx) (wa (aA hn2) (wa (aA hk2) (wa (aA ha2) (wa (Eq.symm hV) (wa @Slot.c.eq_1 (wa @cL.eq_1 (wa hl1 (wa hl2 (wa @j7 (wa @cB.eq_1 (wa hc.1 (wa hc.2 (hs2n hc.1))))))))))))))))
   refine wp (h:=dX (qQ x.term s2.1 (by rw [hs2.l1];exact hT) hs2.big) wr wl rfl ?_)
   refine wv (h:=?_)
   repeat first|intro _|refine ⟨eL,?_⟩
   refine wq (λh12=>?_) λh12=>?_
   .have hR:=eF (hSt.2 (by first|simpa using h12|simpa [hs2n hc.1] using h12|simpa [hs2e] using h12))
    exact wv (h:=hQ _ _ (by simp [go_sem,hR]))
   .have hstep:=hSt.1 (by first|simpa using h12|simpa [hs2n hc.1] using h12|simpa [hs2e] using h12)
    exact wp (h:=wx hI0 (i+1) ⟨s2,wg,(by simp [go_sem,Y]),wn,(by simp [go_sem,Y]),wn,wj,(by exact hs2),(by exact hstep)⟩)
  .have Y:=wa Y (wa h4 (wa (aA h4) (wa (Eq.symm hx) (wa (aA hn2) (wa (aA hk2) (wa (aA ha2) (wa (Eq.symm hV) (wa @Slot.c.eq_1 (wa @cL.eq_1 (wa hl1 (wa hl2 (wa @j7 (wa @cB.eq_1 (wa hc.1 (wa hc.2 (hs2n hc.1))))))))))))))))
   refine wp (h:=dX (qQ x.term s2.1 (by rw [hs2.l1];exact hT) hs2.big) wr wl rfl ?_)
   refine wv (h:=?_)
   repeat first|intro _|refine ⟨eL,?_⟩
   refine wq (λh12=>?_) λh12=>?_
   .have hR:=eF (hSt.2 (by first|simpa using h12|simpa [hs2n hc.1] using h12|simpa [hs2e] using h12))
    exact wv (h:=hQ _ _ (by simp [go_sem,hR]))
   .have hstep:=hSt.1 (by first|simpa using h12|simpa [hs2n hc.1] using h12|simpa [hs2e] using h12)
    exact wp (h:=wx hI0 (i+1) ⟨s2,wg,(by simp [go_sem,Y]),wn,(by simp [go_sem,Y]),wn,wj,(by exact hs2),(by exact hstep)⟩)
 .rw [aG aD] at hsl
  have hR0:=oT hsl
  have hl1:=hst.l1
  have Y:=wa Y hl1
  refine wv (h:=bD (λk e H=>(e 3=.adr p.c/\e 4=.adr h.c/\e 5=.adr m.c/\e 8=.own 0 p.vars.toNat/\e 14=dI k)/\(H.get 0=some ⟨3,1,st.1.map cI,false⟩)/\(0<H.next)/\(k<=p.tests.length)/\((p.tests.take k).all (λx=>Aj x st.1)=true)) (λk=>p.tests.length - k) 0 ⟨wg,wn,wn,wi,(by rfl)⟩ λI2 hI2 k e H hi2=>?_)
  obtain ⟨E2,g0_2,n0_2,hk,hall⟩:=hi2
  have Y:=wa Y (wa E2 (wa g0_2 (b8 n0_2)))
  refine wv (h:=?_)
  repeat first|intro _|refine ⟨eL,?_⟩
  refine wq (λh15=>?_) λh15=>?_
  .have Y:=wa Y (wa h15 (wa (aA h15) @Test.c.eq_1))
   refine wp (h:=dX (Ml p.tests[k] st.1 (by rw [hst.l1];exact hO.test _ (aC h15)) hst.big) wr wl rfl ?_)
   refine wv (h:=?_)
   repeat first|intro _|refine ⟨eL,?_⟩
   refine wq (λh17=>?_) λh17=>?_
   .have hR:fB p h m []=([],16):=by
     rw [hR0,if_neg]
     intro ha
     rw [cJ] at ha
     have:=ha _ (aC h15)
     simp [this] at h17
    exact wv (h:=hQ _ _ (by simp [go_sem,hR]))
   .exact wp (h:=wx hI2 (k+1) ⟨wg,wn,wn,wj,(by rw [aE h15,Bt,hall];simp;simpa using h17)⟩)
  .rw [aG aD] at hall
   rw [if_pos hall] at hR0
   exact wv (h:=hQ _ _ (by simp [go_sem,Y,hR0,dLI]))
def Am (t:Types)(p:Pattern)(h:Host):Int:=if c6 t p≠0 then c6 t p else iG t h
theorem L7 (t:Types)(b:t.ok)(p:Pattern)(h:Host):Pure Tryz.prog 248 [t.d,p.d,h.d] (dI (Am t p h)):=by
 refine Tz.pK ⟨λ_=>false,λ_=>[]⟩ Tryz.func248 rfl (λQ e=>?_)
 have Y:=wa @Host.d.eq_1 @Host.c.eq_1
 refine wv (h:=aB (tH t b p) wl ?_)
 refine dP (λa=>?_) λa=>?_
 .exact wv (h:=e _ _ (by simp [go_sem,Am,a]))
 .refine wv (h:=aB (yM t b h) wl ?_)
  exact wv (h:=e _ _ (by simp [go_sem,Am,a,iG]))
theorem L8 (t:Types)(i:t.ok)(p:Pattern)(h:Host)(m:Part):Pure Tryz.prog 149 [t.d,p.d,h.d,m.d] (.tup [dLI (d9 t p h m).1,dI (d9 t p h m).2]):=by
 refine Tz.pK ⟨λ_=>false,λ_=>[]⟩ Tryz.func149 rfl (λQ g=>?_)
 have Y:=wa @Pattern.d.eq_1 (wa @Pattern.c.eq_1 (wa @Host.d.eq_1 @Host.c.eq_1))
 refine wv (h:=aB (L7 t i p h) wl ?_)
 refine dP (λa=>?_) λa=>?_
 .have e:d9 t p h m=([],Am t p h):=by
   unfold d9 Am
   unfold Am at a
   by_cases b:c6 t p=0
   .rw [if_neg aD] at a ⊢
    rw [if_pos a,if_neg aD]
   .rw [if_pos b,if_pos b]
  exact wv (h:=g _ _ (by simp [go_sem,e]))
 .have hp0:c6 t p=0:=by
   unfold Am at a
   refine bA λb=>?_
   rw [if_pos b] at a;exact b a
  have f:iG t h=0:=by unfold Am at a;rw [if_neg aD] at a;exact a
  refine wv (h:=aB (yL t i p.graph h.graph m false) wl ?_)
  refine dP (λj=>?_) λj=>?_
  .have e:d9 t p h m=([],fM t p.graph h.graph m false):=by unfold d9;rw [if_neg aD,if_neg aD,if_pos j]
   exact wv (h:=g _ _ (by simp [go_sem,e]))
  .have h5':fM t p.graph h.graph m false=0:=aD
   have e:d9 t p h m=fB p h m []:=by unfold d9;rw [if_neg aD,if_neg aD,if_neg aD]
   refine wv (h:=aB (Kn p h m (US (Ms (.inr hp0)) (sM f) (sI (r4 h5').2))) wl ?_)
   exact wv (h:=g _ _ (by simp [go_sem,e]))
theorem TY (l:List Part):(Nh l).1.length<=5000:=by
 unfold Nh;split
 .simp
 .simp only;omega
theorem P1 (t:Types)(p g:Graph)(q:Part)(a:Bool):(nJ t p g q a).1.length<=5000:=by
 unfold nJ;split
 .simp
 .split
  .simp
  .split
   .simp
   .split
    .simp
    .exact TY _
def Mq (at_ im:List Int)(n i:Nat):List Int:=(List.range i).foldl (λacc i=>acc.set (at_[i]?.getD 0).toNat (im[i]?.getD 0)) (List.replicate n (-1))
theorem Gg (a b:List Int)(n i:Nat):Mq a b n (i+1)=(Mq a b n i).set (a[i]?.getD 0).toNat (b[i]?.getD 0):=by unfold Mq;rw [eD]
theorem BX (at_ im:List Int)(n:Nat):∀ i,(Mq at_ im n i).length=n
 | 0=>by simp [Mq]
 | i+1=>by rw [Gg,g7];exact BX at_ im n i
theorem BS (n:Nat)(hn:n<=1000000)(at_ im:List Int)(h1:∀ x∈at_,0<=x/\x<n)(h2:at_.length<=im.length):Pure Tryz.prog 393 [dI n,dLI at_,dLI im] (dLI (yQ n at_ im)):=by
 refine Tz.pK ⟨λt=>t==7,λ_=>[]⟩ Tryz.func393 rfl (λQ hQ=>?_)
 have Y:=trivial
 refine wv (h:=bD (λi e H=>(e 0=dI n/\e 1=dLI at_/\e 2=dLI im/\e 7=.own 0 i/\e 8=dI i)/\(H.get 0=some ⟨3,1,(List.replicate i (-1:Int)).map cI,false⟩)/\(0<H.next)/\(i<=n)) (λi=>n - i) 0 ⟨wg,(by simp [go_sem]),wn,wi⟩ λI0 hI0 i e H hi0=>?_)
 obtain ⟨E0,g0_0,n0_0,hi⟩:=hi0
 have Y:=wa Y (wa E0 (wa g0_0 (b8 n0_0)))
 refine dP (λh3=>?_) λh3=>?_
 .have Y:=wa Y h3
  exact wp (h:=wx hI0 (i+1) ⟨wg,(by simp [go_sem,Y,List.replicate_succ',cI]),wn,wj⟩)
 .have hin:i=n:=aD
  refine wv (h:=bD (λk e H=>(e 0=dI n/\e 1=dLI at_/\e 2=dLI im/\e 7=.own 0 n/\e 9=dI k)/\(H.get 0=some ⟨3,1,(Mq at_ im n k).map cI,false⟩)/\(0<H.next)/\(k<=at_.length)/\((Mq at_ im n k).length=n)) (λk=>at_.length - k) 0 ⟨wg,(by simp [go_sem,Y,Mq,hin]),wn,wi,(by exact BX _ _ _ _)⟩ λI2 hI2 k e H hi2=>?_)
  obtain ⟨E2,g0_2,n0_2,hk,hpl⟩:=hi2
  have Y:=wa Y (wa E2 (wa g0_2 (wa (b8 n0_2) hpl)))
  refine wv (h:=?_)
  repeat first|intro _|refine ⟨eL,?_⟩
  refine wq (λh7=>?_) λh7=>?_
  .have hki:k<im.length:=aD
   have ha:=h1 _ (aC h7)
   have ha0:at_[k]?.getD 0=at_[k]:=by rw [aA h7];rfl
   have hi0:im[k]?.getD 0=im[k]:=by rw [aA hki];rfl
   have hal:at_[k].toNat<(Mq at_ im n k).length:=aD
   have Y:=wa Y (wa h7 (wa (aA h7) (wa (aA hki) (aA hal))))
   exact wp (h:=wx hI2 (k+1) ⟨wg,(by simp [go_sem,Y,Gg,bY,ha0,hi0,cI]),wn,wj,(by exact BX _ _ _ _)⟩)
  .have hP:yQ n at_ im=Mq at_ im n k:=by unfold yQ Mq;rw [(aD:k=at_.length)]
   exact wv (h:=hQ _ _ (by simp [go_sem,Y,hP,dLI]))
def KB (len i:Nat):List Bool:=(List.range i).map λj=>decide (j<len)
theorem Sl (len i:Nat):KB len (i+1)=KB len i++[decide (i<len)]:=by simp [KB,c7]
theorem Kz (len i:Nat):(KB len i).length=i:=by simp [KB]
theorem KA (len n:Nat)(h:len<=n):KB len n=List.replicate len true++List.replicate (n - len) false:=by
 apply fT (by simp [KB];omega)
 intro i b a
 simp only [KB,oR,pO,List.getElem_append,List.getElem_replicate,dM]
 split
 .rename_i h3;simpa using h3
 .rename_i h3;simpa using h3
theorem TJ (len i n:Nat)(h:i<n):(KB len i++List.replicate (n - i) false).set i (decide (i<len))=KB len (i+1)++List.replicate (n - (i+1)) false:=by
 rw [mG _ _ (by rw [Kz];omega),Kz,xO,Sl,show n - i=(n - (i+1))+1 by omega,s5]
 simp
def Rd (len n i:Nat):List Bool:=KB len i++List.replicate (n - i) false
theorem Sn (len n:Nat):Rd len n 0=List.replicate n false:=by simp [Rd,KB]
theorem TM {len n i:Nat}(h:i<=n):(Rd len n i).length=n:=by simp [Rd,Kz];omega
theorem TL {len n i:Nat}(h:i<n):(Rd len n i).set i (decide (i<len))=Rd len n (i+1):=TJ len i n h
theorem PT (len n:Nat):Rd len n n=KB len n:=by simp [Rd]
def Hn (vs:List Int)(i:Nat):List Int:=vs++List.replicate (i - vs.length) 0
theorem Lo (vs:List Int)(i:Nat):Hn vs (i+1)=if vs.length<=i then Hn vs i++[0] else Hn vs i:=by
 unfold Hn
 split
 .rename_i h;rw [(aD:i+1 - vs.length=(i - vs.length)+1),List.replicate_succ',List.append_assoc]
 .rename_i h;rw [(aD:i+1 - vs.length=0),(aD:i - vs.length=0)]
theorem Pt (vs:List Int)(i:Nat):(Hn vs i).length=max vs.length i:=by simp [Hn];omega
theorem RR {x:Test}{vs:List Int}{n:Nat}(a:Hm x n):Aj x vs = !((decide (x.kind=1)&&decide (c8 x.right vs<c8 x.left vs))||(decide (x.kind=2)&&!decide (c8 x.left vs=c8 x.right vs))):=by
 rcases a.1 with h|h
 .unfold Aj;rw [h];simp
  rw [aR];simp
 .unfold Aj;rw [h];simp
theorem Kl (p:Pattern)(h:Host)(m:Part)(hO:SOk p h m)(vs:List Int)(hl:vs.length<=p.vars.toNat)(hs:∀ v∈vs,-2000000<=v/\v<=2000000) :
  Pure Tryz.prog 395 [p.d,h.d,m.d,dLI vs] (.tup [dLI (fB p h m vs).1,.bool (decide ((fB p h m vs).2=0))]):=by
 have hv:=hO.vars
 have h0:=LG hv.1 hl hs
 have hva0:Hn vs 0=vs:=by simp [Hn]
 have hst0:JT p vs=(Hn vs p.vars.toNat,KB vs.length p.vars.toNat):=by unfold JT;rw [KA _ _ hl];rfl
 refine Tz.pK ⟨λt=>t==14||t==19||t==24,λr=>match r with|15=>[(5,14),(6,14),(7,14)]|_=>[]⟩ Tryz.func395 rfl (λQ hQ=>?_)
 have Y:=wa hva0 (wa @Pattern.d.eq_1 (wa @Pattern.c.eq_1 (wa @Host.d.eq_1 (wa @Host.c.eq_1 (wa @Part.d.eq_1 (wa @Part.c.eq_1 @Term.c.eq_1))))))
 refine wp (h:=bD (λi e H=>(e 4=.adr p.c/\e 5=.adr h.c/\e 6=.adr m.c/\e 3=dLI vs/\e 10=.own 0 (Hn vs i).length/\e 11=.own 1 p.vars.toNat/\e 12=dI i)/\(H.get 0=some ⟨3,1,(Hn vs i).map cI,false⟩)/\(0<H.next)/\(H.get 1=some ⟨4,1,(Rd vs.length p.vars.toNat i).map cB,false⟩)/\(1<H.next)/\(i<=p.vars.toNat)) (λi=>p.vars.toNat - i) 0 ⟨wg,(by simp [go_sem,Hn]),wn,(by simp [go_sem,Sn,cB]),wn,wi⟩ λI0 hI0 i e H hi0=>?_)
 obtain ⟨E0,g0_0,n0_0,g1_0,n1_0,hi⟩:=hi0
 have Y:=wa Y (wa E0 (wa g0_0 (wa (b8 n0_0) (wa g1_0 (b8 n1_0)))))
 refine dP (λh4=>?_) λh4=>?_
 .have hI:=Pt vs i
  have hK:=TL (len:=vs.length) (n:=p.vars.toNat) (i:=i) aD
  have hKl:=TM (len:=vs.length) (n:=p.vars.toNat) (i:=i) aD
  have hKi:i<(Rd vs.length p.vars.toNat i).length:=aD
  have hKm:((Rd vs.length p.vars.toNat i).map cB).set i [.bool (decide (i<vs.length))]=(Rd vs.length p.vars.toNat (i+1)).map cB:=by rw [<- hK,bY];rfl
  have Y:=wa Y (wa h4 (wa hKl (wa (aA hKi) hKm)))
  refine wv (h:=?_)
  repeat first|intro _|refine ⟨eL,?_⟩
  refine wq (λh7=>?_) λh7=>?_
  .have hVs:Hn vs (i+1)=Hn vs i++[0]:=by rw [Lo,if_pos aD]
   have Y:=wa Y hVs
   exact wp (h:=wx hI0 (i+1) ⟨wg,(by simp [go_sem,Y]),wn,(by simp [go_sem,Y]),wn,wj⟩)
  .have hVs:Hn vs (i+1)=Hn vs i:=by rw [Lo,if_neg aD]
   have Y:=wa Y hVs
   exact wp (h:=wx hI0 (i+1) ⟨wg,(by simp [go_sem,Y]),wn,(by simp [go_sem,Y]),wn,wj⟩)
 .have hin:i=p.vars.toNat:=aD
  have hI:=Pt vs i
  rw [hin,Nat.max_eq_right hl] at hI
  have hK0:Rd vs.length i i=KB vs.length i:=PT _ _
  have hK1:=PT vs.length p.vars.toNat
  have Y:=wa Y (wa hin (wa hI hK1))
  refine wv (h:=bD (λi e H=>∃ st:List Int × List Bool,(e 4=.adr p.c/\e 5=.adr h.c/\e 6=.adr m.c/\e 3=dLI vs/\e 10=.own 0 p.vars.toNat/\e 11=.own 1 p.vars.toNat/\e 13=dI i)/\(H.get 0=some ⟨3,1,st.1.map cI,false⟩)/\(0<H.next)/\(H.get 1=some ⟨4,1,st.2.map cB,false⟩)/\(1<H.next)/\(i<=p.slots.length)/\(StOk p.vars.toNat st)/\(jA h m (JT p vs) (p.slots.take i)=some st)) (λi=>p.slots.length - i) 0 ⟨((Hn vs p.vars.toNat,KB vs.length p.vars.toNat)),wg,(by simp [go_sem,Y,hin]),wn,(by simp [go_sem,Y,hin,hK1]),wn,wi,(by rw [<- hst0];exact h0),(by rw [hst0];rfl)⟩ λI2 hI2 i e H hi2=>?_)
  obtain ⟨st,E2,g0_2,n0_2,g1_2,n1_2,hi,hst,hsl⟩:=hi2
  have Y:=wa Y (wa E2 (wa g0_2 (wa (b8 n0_2) (wa g1_2 (b8 n1_2)))))
  refine wv (h:=?_)
  repeat first|intro _|refine ⟨eL,?_⟩
  refine wq (λh10=>?_) λh10=>?_
  .obtain ⟨x,hx⟩:=cW (p.slots[i])
   have hxm:x∈p.slots:=hx ▸ aC h10
   have hn:=hO.node x hxm
   have hn2:x.node.toNat<m.nodes.length:=aD
   have hk:=hO.img _ (aC hn2)
   have hk2:(m.nodes[x.node.toNat]).toNat<h.values.length:=aD
   have ha:=hO.attr x hxm
   rw [aA hn2,Option.getD_some,aA hk2,Option.getD_some] at ha
   have ha2:x.attr.toNat<(h.values[(m.nodes[x.node.toNat]).toNat]).length:=aD
   have hV:lT h m x=h.values[(m.nodes[x.node.toNat]).toNat][x.attr.toNat]:=by unfold lT;rw [aA hn2,Option.getD_some,aA hk2,Option.getD_some,aA ha2];rfl
   have hb:=hO.have_ hxm
   have hT:=hO.term x hxm
   have hl1:=hst.l1
   have hl2:=hst.l2
   have hTv:=hT.1
   have hTa:=hT.2
   have hSt:=tE h10 hsl
   rw [<- hx] at hSt
   obtain ⟨s2,hs2e⟩:∃ y,y=l3 h m st x:=⟨_,rfl⟩
   have hs2:StOk p.vars.toNat s2:=hs2e ▸ yD hst hb hT
   rw [<- hs2e] at hSt
   have hs2n:¬ 0<=x.term.var->s2=st:=λhn=>by rw [hs2e];unfold l3 kY;rw [if_neg (by simp [hn])]
   have vlt:0<=x.term.var->x.term.var.toNat<st.2.length:=λhn=>by omega
   obtain ⟨kb,hkb⟩:=cW (st.2[x.term.var.toNat]?.getD false)
   have hcase:0<=x.term.var\/(¬ 0<=x.term.var/\st.2[x.term.var.toNat]?=none)\/(¬ 0<=x.term.var/\st.2[x.term.var.toNat]?=some kb):=by
    by_cases hsp:0<=x.term.var
    .exact .inl hsp
    .right
     cases ho:st.2[x.term.var.toNat]? with
     | none=>exact .inl ⟨hsp,rfl⟩
     | some b=>rw [ho] at hkb;exact .inr ⟨hsp,by rw [hkb];rfl⟩
   rcases hcase with hc|hc|hc
   .have Y:=wa Y (wa h10 (wa (aA h10) (wa (Eq.symm hx) (wa (aA hn2) (wa (aA hk2) (wa (aA ha2) (wa (Eq.symm hV) (wa @Slot.c.eq_1 (wa @cL.eq_1 (wa hl1 (wa hl2 (wa @j7 (wa @cB.eq_1 (wa hc ((aA (vlt hc)))))))))))))))))
    refine wv (h:=?_)
    repeat first|intro _|refine ⟨eL,?_⟩
    refine wq (λh14=>?_) λh14=>?_
    .have hF:kY st x=true:=by simp only [kY,aQ,decide_eq_true_eq,c9];exact ⟨hc,by simpa [aA (vlt hc)] using h14⟩
     unfold l3 at hs2e
     rw [if_pos hF] at hs2e
     have hvl:x.term.var.toNat<st.1.length:=aD
     have e1:s2.1.map cI=(st.1.map cI).set x.term.var.toNat (cI (lT h m x - x.term.add)):=by rw [hs2e,bY]
     have e2:s2.2.map cB=(st.2.map cB).set x.term.var.toNat (cB true):=by rw [hs2e,bY]
     have ecl:D.clLL ((st.1.map cI).set x.term.var.toNat [D.int .i64 (lT h m x - x.term.add)])=true:=by have:=qK s2.1;rw [e1] at this;exact this
     have Y:=wa Y (wa e1 (wa e2 (wa @dLI.eq_1 (wa @cI.eq_1 (wa (aA hvl) ecl)))))
     refine wp (h:=dX (jO x.term s2.1 (by rw [hs2.l1];exact hT) hs2.big) wr wl rfl ?_)
     refine wv (h:=?_)
     repeat first|intro _|refine ⟨eL,?_⟩
     refine wq (λh17=>?_) λh17=>?_
     .have hR:=eF (hSt.2 (by first|simpa using h17|simpa [hs2n hc.1] using h17|simpa [hs2e] using h17))
      exact wv (h:=hQ _ _ (by simp [go_sem,hR]))
     .have hstep:=hSt.1 (by first|simpa using h17|simpa [hs2n hc.1] using h17|simpa [hs2e] using h17)
      exact wp (h:=wx hI2 (i+1) ⟨s2,wg,(by simp [go_sem,Y]),wn,(by simp [go_sem,Y]),wn,wj,(by exact hs2),(by exact hstep)⟩)
    .have hF:¬ kY st x=true:=by simp only [kY,aQ,decide_eq_true_eq,c9];rintro ⟨_,hk⟩;simp [aA (vlt hc)] at hk;simp [hk] at h14
     unfold l3 at hs2e
     rw [if_neg hF] at hs2e
     have Y:=wa Y hs2e
     refine wv (h:=dX ((by first|exact jO x.term s2.1 (by rw [hs2.l1];exact hT) hs2.big|exact jO p.tests[k].left st.1 (by rw [hst.l1];exact hX.2.1) hst.big)) wr wl rfl ?_)
     refine dP (λh17=>?_) λh17=>?_
     .have hR:=eF (hSt.2 (by first|simpa using h17|simpa [hs2n hc.1] using h17|simpa [hs2e] using h17))
      exact wv (h:=hQ _ _ (by simp [go_sem,hR]))
     .have hstep:=hSt.1 (by first|simpa using h17|simpa [hs2n hc.1] using h17|simpa [hs2e] using h17)
      exact wp (h:=wx hI2 (i+1) ⟨s2,wg,(by simp [go_sem,Y]),wn,(by simp [go_sem,Y]),wn,wj,(by exact hs2),(by exact hstep)⟩)
   .have Y:=wa Y (wa h10 (wa (aA h10) (wa (Eq.symm hx) (wa (aA hn2) (wa (aA hk2) (wa (aA ha2) (wa (Eq.symm hV) (wa @Slot.c.eq_1 (wa @cL.eq_1 (wa hl1 (wa hl2 (wa @j7 (wa @cB.eq_1 (wa hc.1 (wa hc.2 (hs2n hc.1))))))))))))))))
    refine wp (h:=dX (jO x.term s2.1 (by rw [hs2.l1];exact hT) hs2.big) wr wl rfl ?_)
    refine wv (h:=?_)
    repeat first|intro _|refine ⟨eL,?_⟩
    refine wq (λh17=>?_) λh17=>?_
    .have hR:=eF (hSt.2 (by first|simpa using h17|simpa [hs2n hc.1] using h17|simpa [hs2e] using h17))
     exact wv (h:=hQ _ _ (by simp [go_sem,hR]))
    .have hstep:=hSt.1 (by first|simpa using h17|simpa [hs2n hc.1] using h17|simpa [hs2e] using h17)
     exact wp (h:=wx hI2 (i+1) ⟨s2,wg,(by simp [go_sem,Y]),wn,(by simp [go_sem,Y]),wn,wj,(by exact hs2),(by exact hstep)⟩)
   .have Y:=wa Y (wa h10 (wa (aA h10) (wa (Eq.symm hx) (wa (aA hn2) (wa (aA hk2) (wa (aA ha2) (wa (Eq.symm hV) (wa @Slot.c.eq_1 (wa @cL.eq_1 (wa hl1 (wa hl2 (wa @j7 (wa @cB.eq_1 (wa hc.1 (wa hc.2 (hs2n hc.1))))))))))))))))
    refine wp (h:=dX (jO x.term s2.1 (by rw [hs2.l1];exact hT) hs2.big) wr wl rfl ?_)
    refine wv (h:=?_)
    repeat first|intro _|refine ⟨eL,?_⟩
    refine wq (λh17=>?_) λh17=>?_
    .have hR:=eF (hSt.2 (by first|simpa using h17|simpa [hs2n hc.1] using h17|simpa [hs2e] using h17))
     exact wv (h:=hQ _ _ (by simp [go_sem,hR]))
    .have hstep:=hSt.1 (by first|simpa using h17|simpa [hs2n hc.1] using h17|simpa [hs2e] using h17)
     exact wp (h:=wx hI2 (i+1) ⟨s2,wg,(by simp [go_sem,Y]),wn,(by simp [go_sem,Y]),wn,wj,(by exact hs2),(by exact hstep)⟩)
  .rw [aG aD] at hsl
   have hR0:=oT hsl
   have hl1:=hst.l1
   have Y:=wa Y hl1
   refine wv (h:=bD (λk e H=>(e 4=.adr p.c/\e 5=.adr h.c/\e 6=.adr m.c/\e 3=dLI vs/\e 10=.own 0 p.vars.toNat/\e 18=dI k)/\(H.get 0=some ⟨3,1,st.1.map cI,false⟩)/\(0<H.next)/\(k<=p.tests.length)/\((p.tests.take k).all (λx=>Aj x st.1)=true)) (λk=>p.tests.length - k) 0 ⟨wg,wn,wn,wi,(by rfl)⟩ λI4 hI4 k e H hi4=>?_)
   obtain ⟨E4,g0_4,n0_4,hk,hall⟩:=hi4
   have Y:=wa Y (wa E4 (wa g0_4 (b8 n0_4)))
   refine wv (h:=?_)
   repeat first|intro _|refine ⟨eL,?_⟩
   refine wq (λh20=>?_) λh20=>?_
   .have hX:=hO.test _ (aC h20)
    have hTn:=RR (vs:=st.1) hX
    have Y:=wa Y (wa h20 (wa (aA h20) @Test.c.eq_1))
    refine wp (h:=dX ((by first|exact jO x.term s2.1 (by rw [hs2.l1];exact hT) hs2.big|exact jO p.tests[k].left st.1 (by rw [hst.l1];exact hX.2.1) hst.big)) wr wl rfl ?_)
    refine wp (h:=dX (jO p.tests[k].right st.1 (by rw [hst.l1];exact hX.2.2) hst.big) wr wl rfl ?_)
    refine wv (h:=?_)
    repeat first|intro _|refine ⟨eL,?_⟩
    refine wq (λh25=>?_) λh25=>?_
    .have hT0:Aj p.tests[k] st.1=false:=by
      rw [hTn,Bool.not_eq_false']
      rcases h25 with ⟨a,b⟩|⟨a,b⟩
      .simp [a,b]
      .simp [a,b]
     have hR:fB p h m vs=([],16):=by
      rw [hR0,if_neg]
      intro ha
      rw [cJ] at ha
      have:=ha _ (aC h20)
      rw [hT0] at this;cases this
     exact wv (h:=hQ _ _ (by simp [go_sem,hR]))
    .have hT1:Aj p.tests[k] st.1=true:=by
      rw [hTn];simp
      exact ⟨by by_cases hk1:p.tests[k].kind=1;exact .inr (h25.1 hk1);exact .inl hk1,by by_cases hk2:p.tests[k].kind=2;exact .inr (h25.2 hk2);exact .inl hk2⟩
     exact wp (h:=wx hI4 (k+1) ⟨wg,wn,wn,wj,(by rw [aE h20,Bt,hall];simp;exact hT1)⟩)
   .rw [aG aD] at hall
    rw [if_pos hall] at hR0
    exact wv (h:=hQ _ _ (by simp [go_sem,Y,hR0,dLI]))
/-! ### extensions -/
structure MatOk (t:Types) (p:Pattern) (h:Host) (m:Mat):Prop where
 mok:MOk t p.graph h.graph m.m
 vl:m.vars.length=p.vars.toNat
 vs:∀ v∈m.vars,-2000000<=v/\v<=2000000
structure ExOk (t:Types) (p:Pattern) (mp:Part) (q:Pattern):Prop where
 pq:PatOk t q
 pv:p.vars<=q.vars
 p0:0<=p.vars
 mo:eV p.graph q.graph mp=0
theorem ExOk.img {t:Types}{p:Pattern}{a:Part}{q:Pattern}(h:ExOk t p a q):(a.nodes.length=p.graph.nodes.length/\a.edges.length=p.graph.edges.length)/\(∀ x∈a.nodes,0<=x/\x<q.graph.nodes.length)/\(∀ x∈a.edges,0<=x/\x<q.graph.edges.length):=by
 have:=n4 h.mo
 exact ⟨this.2.2,(zW h.mo).1,(zW h.mo).2⟩
theorem GO {t:Types}{p g:Graph}{q:Part}{a:Bool}{m:Part}(h:m∈(nJ t p g q a).1):MOk t p g m:=by
 unfold nJ at h
 split at h
 .cases h
 .split at h
  .cases h
  .split at h
   .cases h
   .split at h
    .cases h
    .unfold Nh at h
     split at h
     .cases h
     .exact SZ (S:=⟨t,p,g,_,_,a⟩) (dB h)
theorem RJ {t:Types}{q:Pattern}{h:Host}{vars:List Int}{l:List Part}(hp:PatOk t q)(ho:HostOk t h)(hl:∀ x∈l,MOk t q.graph h.graph x)(hv:vars.length<=q.vars.toNat)(hs:∀ v∈vars,-2000000<=v/\v<=2000000):∀ m∈At q h vars l,MatOk t q h m:=λm hm=>by
 unfold At at hm
 rw [List.mem_filterMap] at hm
 obtain ⟨x,hx,he⟩:=hm
 split at he
 .rename_i h0
  cases he
  obtain ⟨h1,h2⟩:=AR (US hp ho (hl x hx)) hv hs h0
  exact ⟨hl x hx,h1,h2⟩
 .cases he
theorem P2 {t:Types}{p:Pattern}{c:Part}{q:Pattern}{h:Host}{m:Mat}{a:Bool}(b:ExOk t p c q)(f:HostOk t h)(d:MatOk t p h m):∀ x∈(xL t c q h m a).1,MatOk t q h x:=by
 unfold xL
 split
 .simp
 .exact RJ b.pq f (λx e=>GO e) (by have:=d.vl;have:=b.pv;have:=b.p0;omega) d.vs
theorem C5 (t:Types)(ht:t.ok)(p:Pattern)(c:Cond)(hE:ExOk t p c.map c.pattern)(h:Host)(ho:HostOk t h)(m:Mat)(hm:MatOk t p h m)(inj:Bool) :
  Pure Tryz.prog 341 [t.d,.agg c.c,h.d,m.d,.bool inj] (.tup [.list ((xL t c.map c.pattern h m inj).1.map Mat.c),dI (xL t c.map c.pattern h m inj).2]):=by
 obtain ⟨⟨hl1,hl2⟩,hi1,hi2⟩:=hE.img
 have hq:=bS hE.pq.gg
 have hn1:=hm.mok.len
 have hn2:=hm.mok.elen
 refine Tz.pK ⟨λt=>t==12||t==13||t==16,λr=>match r with|2=>[(0,23),(1,23),(2,23),(3,23),(4,23),(5,23),(6,23),(7,23),(8,23),(9,23),(10,23),(11,23),(12,23),(13,23),(14,23),(15,23),(16,23),(17,23),(18,23),(19,23),(20,23),(21,23)]|_=>[]⟩ Tryz.func341 rfl (λQ hQ=>?_)
 obtain ⟨X,hX⟩:=cW (nJ t c.pattern.graph h.graph (o6 c.map c.pattern m.m) inj)
 have hXm:∀ x∈X.1,MOk t c.pattern.graph h.graph x:=λx hx=>GO (hX ▸ hx)
 have hX5:X.1.length<=5000:=hX ▸ P1 _ _ _ _ _
 have hvl:m.vars.length<=c.pattern.vars.toNat:=by have:=hm.vl;have:=hE.pv;have:=hE.p0;omega
 have hXE:xL t c.map c.pattern h m inj=if X.2≠0 then ([],X.2) else (At c.pattern h m.vars X.1,0):=by unfold xL;rw [<- hX]
 have Y:=wa @Cond.c_eq (wa @Host.d.eq_1 (wa @Host.c.eq_1 (wa @Mat.d.eq_1 @Mat.c.eq_1)))
 refine wp (h:=aI (BS c.pattern.graph.nodes.length aD c.map.nodes m.m.nodes hi1 aD) wl ?_)
 refine wp (h:=aI (BS c.pattern.graph.edges.length aD c.map.edges m.m.edges hi2 aD) wl ?_)
 refine wp (h:=aB ((by have hq:=Ko t ht c.pattern.graph h.graph (o6 c.map c.pattern m.m) inj;rw [<- hX] at hq;unfold o6 Types.d Types.c Graph.d Graph.c Part.d Part.c dLI at hq;exact hq)) wl ?_)
 refine rT (λh4=>?_) λh4=>?_
 .rw [if_pos h4] at hXE
  exact wv (h:=hQ _ _ (by simp [go_sem,hXE]))
 .rw [if_neg aD] at hXE
  refine wv (h:=bD (λi e H=>∃ ms:List Mat,(e 5=.adr t.c/\e 6=.adr c.c/\e 7=.adr h.c/\e 8=.adr m.c/\e 4=.bool inj/\e 12=.ptr 0 1 0 0/\e 14=.list (X.1.map Part.c)/\e 16=.own 26 ms.length/\e 17=dI i)/\(H.get 0=some ⟨33,5,[c.pattern.c],false⟩)/\(0<H.next)/\(H.get 26=some ⟨46,3,ms.map Mat.c,false⟩)/\(26<H.next)/\(i<=X.1.length)/\(ms=At c.pattern h m.vars (X.1.take i))/\(ms.length<=i)) (λi=>X.1.length - i) 0 ⟨([]),wg,wn,wn,wn,wn,wi,(by rfl),(by simp)⟩ λI0 hI0 i e H hi0=>?_)
  obtain ⟨ms,E0,g0_0,n0_0,g26_0,n26_0,hi,hms,hml⟩:=hi0
  have Y:=wa Y (wa E0 (wa g0_0 (wa (b8 n0_0) (wa g26_0 (b8 n26_0)))))
  refine rT (λh8=>?_) λh8=>?_
  .obtain ⟨v,hv⟩:=cW (fB c.pattern h X.1[i] m.vars)
   obtain ⟨ms2,hms2⟩:∃ y,y=ms++if v.2=0 then [(⟨X.1[i],v.1⟩:Mat)] else []:=⟨_,rfl⟩
   have Y:=wa Y (wa h8 (wa (aA h8) (wa @Part.c.eq_1 @Pattern.c.eq_1)))
   refine wp (h:=aI ((by have hq:=Kl c.pattern h X.1[i] (US hE.pq ho (hXm _ (aC h8))) m.vars hvl hm.vs;rw [<- hv] at hq;unfold Pattern.d Pattern.c Host.d Host.c Part.d Part.c dLI at hq;exact hq)) wl ?_)
   refine rT (λh11=>?_) λh11=>?_
   .have hm3:ms2=ms++[⟨X.1[i],v.1⟩]:=by rw [hms2,if_pos (bX h11)]
    have Y:=wa Y hm3
    exact wp (h:=wx hI0 (i+1) ⟨ms2,wg,wn,wn,wn,wn,wj,(by rw [aE h8,vW,<- hms,<- hv];exact hms2),(by rw [hms2];split<;>simp<;>omega)⟩)
   .have hm3:ms2=ms:=by rw [hms2,if_neg (bX h11),dE]
    have Y:=wa Y hm3
    exact wp (h:=wx hI0 (i+1) ⟨ms2,wg,wn,wn,wn,wn,wj,(by rw [aE h8,vW,<- hms,<- hv];exact hms2),(by rw [hms2];split<;>simp<;>omega)⟩)
  .rw [aG aD] at hms
   exact wv (h:=hQ _ _ (by simp [go_sem,Y,hXE,<- hms]))
theorem MO (l:List Cond):l.length<=Cond.sizes l:=by
 induction l with
 | nil=>simp [Cond.sizes]
 | cons a l ih=>have:=v8 a;simp only [Cond.sizes,fH];omega
structure CondV (t:Types) (p:Pattern) (c:Cond):Prop where
 wf:Lm c=true
 ins:qS t p c=0
 sz:c.size<=1000000
theorem CondV.kinds {t:Types}{p:Pattern}{c:Cond}(h:CondV t p c):(c.kind=2\/c.kind=5->c.kids.length=1)/\(1<=c.kind/\c.kind<=5):=by
 have:=h.wf
 rw [uB,aQ] at this
 have h1:=this.1
 unfold rF at h1
 split at h1
 .omega
 .split at h1
  .rw [aQ,decide_eq_true_eq] at h1;omega
  .split at h1
   .omega
   .rw [aQ,decide_eq_true_eq,decide_eq_true_eq] at h1;omega
theorem CondV.ex {t:Types}{p:Pattern}{c:Cond}(h:CondV t p c)(f:c.kind=5)(g:PatOk t p):ExOk t p c.map c.pattern/\∀ k∈c.kids,CondV t c.pattern k:=by
 have b:=h.ins
 have e:=h.wf
 rw [E8,if_pos f,if_pos f] at b
 rw [uB,aQ,cJ] at e
 by_cases a:jS t p c.map c.pattern=0
 .rw [if_neg aD] at b
  refine ⟨?_,λk d=>⟨e.2 k d,pV b k d,by have:=v8 c;have:=BD d;have:=h.sz;omega⟩⟩
  unfold jS at a
  split at a
  .cases a
  .rename_i h1
   split at a
   .exact absurd a (by assumption)
   .rename_i h2
    split at a
    .exact absurd a (by assumption)
    .rename_i h3
     rw [jU] at h2 h3
     refine ⟨Ms ?_,aD,g.vars.1,h3⟩
     unfold n5 at h2
     split at h2
     .exact .inr h2
     .rename_i h4;left;omega
 .rw [if_pos a] at b;exact absurd b a
theorem CondV.kid {t:Types}{p:Pattern}{c:Cond}(h:CondV t p c)(e:c.kind≠5):∀ k∈c.kids,CondV t p k:=by
 have d:=h.ins
 have b:=h.wf
 rw [E8,if_neg e,if_neg e,if_neg aD] at d
 rw [uB,aQ,cJ] at b
 exact λk a=>⟨b.2 k a,pV d k a,by have:=v8 c;have:=BD a;have:=h.sz;omega⟩
theorem vN {α β:Type}(f:α->β){l:List α}{i:Nat}(h:i<l.length):(l.drop i).map f=f l[i] :: (l.drop (i+1)).map f:=by rw [eE h,g9]
theorem zZ {t:Types}{h:Host}{b:Bool}{l:List Cond}(c:0<l.length):MX (l.map (oO t h b))=oO t h b l[0]:=by
 cases l with
 | nil=>cases c
 | cons a l=>rfl
theorem Bu (t:Types)(h:Host)(d:Bool)(c:Cond)(m:Mat):∃ wc wm wk we,oO t h d c m=(Prf.mk wc wm wk,we):=by
 cases e:oO t h d c m with
 | mk a b=>cases a;exact ⟨_,_,_,_,rfl⟩
theorem L2 (t:Types)(ht:t.ok)(h:Host)(ho:HostOk t h)(inj:Bool):∀ (c:Cond) (p:Pattern),CondV t p c->PatOk t p->∀ m:Mat,MatOk t p h m ->
  Pure Tryz.prog 255 [t.d,.agg c.c,h.d,m.d,.bool inj] (.tup [.agg (oO t h inj c m).1.c,dI (oO t h inj c m).2]):=by
 refine i9 λc ih p hC hp m hm=>?_
 obtain ⟨hK1,hK2⟩:=hC.kinds
 have hkl0:c.kids.length<=1000000:=by have:=MO c.kids;have:=v8 c;have:=hC.sz;omega
 have hW:=JL t h inj c m
 obtain ⟨W,hWW⟩:=cW (oO t h inj c m)
 rw [<- hWW] at hW ⊢
 refine uF (by first|rfl|(simp [go_sem];done)) (λQ hQ=>(aJ (cfg:=⟨λt=>t==10||t==12||t==14||t==16||t==19||t==24,λr=>match r with|3=>[(0,12),(1,12),(2,12),(3,12),(4,12),(5,12),(6,12),(8,12)]|14=>[(0,13),(1,13),(2,13),(4,13),(5,13),(6,13),(7,13),(9,13)]|23=>[(0,13),(1,13),(2,13),(4,13),(5,13),(6,13),(7,13),(9,13)]|34=>[(0,15),(1,15),(2,15),(3,15),(4,15),(5,15),(8,15),(9,15),(11,15)]|36=>[(2,5),(3,5)]|_=>[]⟩) Tz.mixed Tryz.func255 rfl rfl (aF rfl) (by kernel_rfl) ?_))
 have Y:=wa @Cond.c_eq (wa @Host.d.eq_1 (wa @Host.c.eq_1 (wa @Mat.d.eq_1 (wa @Mat.c.eq_1 @Prf.c_eq))))
 refine dP (λh2=>?_) λh2=>?_
 .have h2':c.kind=2:=by simpa using h2
  have hl:0<c.kids.length:=by have:=hK1 (.inl h2');omega
  obtain ⟨k0,hk0e⟩:∃ k,k=c.kids[0]:=⟨_,rfl⟩
  have hk0:k0∈c.kids:=hk0e ▸ aC hl
  have hC0:=hC.kid aD k0 hk0
  obtain ⟨wc,wm,wk,we,hw⟩:=Bu t h inj k0 m
  rw [if_pos h2',zZ hl,<- hk0e,hw] at hW
  unfold TF at hW
  have Y:=wa Y (wa (aA hl) (wa (Eq.symm hk0e) h2'))
  refine wp (h:=aI ((by have hq:=ih k0 hk0 p hC0 hp m hm;simp only [hw,Prf.c_eq,Cond.c_eq] at hq;unfold Types.d Types.c Host.d Host.c Mat.d Mat.c dLI dI at hq;exact hq)) wl ?_)
  refine wv (h:=?_)
  repeat first|intro _|refine ⟨eL,?_⟩
  refine wq (λh4=>?_) λh4=>?_
  .rw [if_pos (bX h4)] at hW
   refine wv (h:=?_)
   exact hQ _ _ (by simp [go_sem,Y,hW,jP,iO,Prf.c_eq,l8,i6,eQ,dLI,eH,fY])
  .rw [if_neg (bX h4)] at hW
   refine dP (λh6=>?_) λh6=>?_
   .rw [if_pos (bX h6)] at hW
    refine wv (h:=?_)
    exact hQ _ _ (by simp [go_sem,Y,hW,jP,iO,Prf.c_eq,l8,i6,eQ,dLI,eH,fY])
   .rw [if_neg (bX h6)] at hW
    refine wv (h:=?_)
    exact hQ _ _ (by simp [go_sem,Y,hW,jP,iO,Prf.c_eq,l8,i6,eQ,dLI,eH,fY])
 .have h2':c.kind≠2:=by simpa using h2
  rw [if_neg h2'] at hW
  refine dP (λh9=>?_) λh9=>?_
  .have h9':c.kind=3:=by simpa using h9
   have hCk:=hC.kid aD
   rw [if_pos h9'] at hW
   have Y:=wa Y h9'
   refine wv (h:=uI (Ghosts.step (Ghosts.refl _) 1 0 4 282 5 _ _ ((by simp [go_sem];rfl)) rfl rfl rfl) (λi e H=>∃ ps:List Prf,(e 5=.adr t.c/\e 6=.adr c.c/\e 7=.adr h.c/\e 8=.adr m.c/\e 4=.bool inj/\e 10=.ptr 0 1 0 0/\e 14=.ptr 1 1 0 0/\e 15=dI i)/\(H.get 0=some ⟨282,5,[[dI 0,.nil,.nil,.nil,.nil]],false⟩)/\(0<H.next)/\(H.get 1=some ⟨282,5,[[dI 0,.nil,.nil,.nil,.own 2 ps.length]],false⟩)/\(1<H.next)/\(H.get 2=some ⟨282,5,ps.map Prf.c,false⟩)/\(2<H.next)/\(i<=c.kids.length)/\(K6 ((c.kids.drop i).map λk=>oO t h inj k m) ps=W)/\(ps.length<=i)/\(c.kids.length<=1000000)) (λi=>c.kids.length - i) 0 ⟨([]),wg,wn,wn,wn,wn,wn,wn,wi,(by exact hW.symm),bW,(by exact hkl0)⟩ λI1 hI1 i e H hi1=>?_)
   obtain ⟨ps,E1,g0_1,n0_1,g1_1,n1_1,g2_1,n2_1,hi,hA,hpl,hkl⟩:=hi1
   have Y:=wa Y (wa E1 (wa g0_1 (wa (b8 n0_1) (wa g1_1 (wa (b8 n1_1) (wa g2_1 (b8 n2_1)))))))
   refine wv (h:=?_)
   repeat first|intro _|refine ⟨eL,?_⟩
   refine wq (λh12=>?_) λh12=>?_
   .obtain ⟨k1,hk1e⟩:∃ k,k=c.kids[i]:=⟨_,rfl⟩
    have hk1:k1∈c.kids:=hk1e ▸ aC h12
    obtain ⟨wc,wm,wk,we,hw⟩:=Bu t h inj k1 m
    have hst:=hA
    rw [vN _ h12,<- hk1e,hw] at hst
    simp only [K6] at hst
    have Y:=wa Y (wa h12 (wa (aA h12) (Eq.symm hk1e)))
    refine wp (h:=aI ((by have hq:=ih k1 hk1 p (hCk k1 hk1) hp m hm;simp only [hw,Prf.c_eq,Cond.c_eq] at hq;unfold Types.d Types.c Host.d Host.c Mat.d Mat.c dLI dI at hq;exact hq)) wl ?_)
    refine wv (h:=?_)
    repeat first|intro _|refine ⟨eL,?_⟩
    refine wq (λh15=>?_) λh15=>?_
    .rw [if_pos (bX h15)] at hst
     refine wv (h:=?_)
     exact hQ _ _ (by simp [go_sem,Y,<- hst,jP,iO,Prf.c_eq,l8,i6,eQ,dLI,eH,fY])
    .rw [if_neg (bX h15)] at hst
     exact wp (h:=wx hI1 (i+1) ⟨(ps++[.mk wc wm wk]),wg,wn,wn,wn,wn,wn,wn,wj,(by exact hst),(by simp;omega),(by exact hkl)⟩)
   .rw [jL aD] at hA
    simp only [jD,K6] at hA
    refine wv (h:=?_)
    exact hQ _ _ (by simp [go_sem,Y,<- hA,jP,iO,Prf.c_eq,l8,i6,eQ,dLI,eH,fY])
  .have h9':c.kind≠3:=by simpa using h9
   rw [if_neg h9'] at hW
   refine dP (λh19=>?_) λh19=>?_
   .have h19':c.kind=4:=by simpa using h19
    have hCk:=hC.kid aD
    rw [if_pos h19'] at hW
    have Y:=wa Y h19'
    refine wv (h:=bD (λi e H=>(e 5=.adr t.c/\e 6=.adr c.c/\e 7=.adr h.c/\e 8=.adr m.c/\e 4=.bool inj/\e 10=.ptr 0 1 0 0/\e 18=dI i)/\(H.get 0=some ⟨282,5,[[dI 0,.nil,.nil,.nil,.nil]],false⟩)/\(0<H.next)/\(i<=c.kids.length)/\(Tx ((c.kids.drop i).map λk=>oO t h inj k m) i=W)) (λi=>c.kids.length - i) 0 ⟨wg,wn,wn,wi,(by exact hW.symm)⟩ λI3 hI3 i e H hi3=>?_)
    obtain ⟨E3,g0_3,n0_3,hi,hA⟩:=hi3
    have Y:=wa Y (wa E3 (wa g0_3 (b8 n0_3)))
    refine wv (h:=?_)
    repeat first|intro _|refine ⟨eL,?_⟩
    refine wq (λh21=>?_) λh21=>?_
    .obtain ⟨k1,hk1e⟩:∃ k,k=c.kids[i]:=⟨_,rfl⟩
     have hk1:k1∈c.kids:=hk1e ▸ aC h21
     obtain ⟨wc,wm,wk,we,hw⟩:=Bu t h inj k1 m
     have hst:=hA
     rw [vN _ h21,<- hk1e,hw] at hst
     simp only [Tx] at hst
     have Y:=wa Y (wa h21 (wa (aA h21) (Eq.symm hk1e)))
     refine wp (h:=aI ((by have hq:=ih k1 hk1 p (hCk k1 hk1) hp m hm;simp only [hw,Prf.c_eq,Cond.c_eq] at hq;unfold Types.d Types.c Host.d Host.c Mat.d Mat.c dLI dI at hq;exact hq)) wl ?_)
     refine wv (h:=?_)
     repeat first|intro _|refine ⟨eL,?_⟩
     refine wq (λh24=>?_) λh24=>?_
     .rw [if_pos (bX h24)] at hst
      refine wv (h:=?_)
      exact hQ _ _ (by simp [go_sem,Y,<- hst,jP,iO,Prf.c_eq,l8,i6,eQ,dLI,eH,fY])
     .rw [if_neg (bX h24)] at hst
      exact wp (h:=wx hI3 (i+1) ⟨wg,wn,wn,wj,(by exact hst)⟩)
    .rw [jL aD] at hA
     simp only [jD,Tx] at hA
     refine wv (h:=?_)
     exact hQ _ _ (by simp [go_sem,Y,<- hA,jP,iO,Prf.c_eq,l8,i6,eQ,dLI,eH,fY])
   .have h19':c.kind≠4:=by simpa using h19
    rw [if_neg h19'] at hW
    refine dP (λh27=>?_) λh27=>?_
    .have h27':c.kind=5:=by simpa using h27
     obtain ⟨hE,hCk⟩:=hC.ex h27' hp
     have hl:0<c.kids.length:=by have:=hK1 (.inr h27');omega
     obtain ⟨k0,hk0e⟩:∃ k,k=c.kids[0]:=⟨_,rfl⟩
     have hk0:k0∈c.kids:=hk0e ▸ aC hl
     obtain ⟨X,hX⟩:=cW (xL t c.map c.pattern h m inj)
     have hXm:∀ x∈X.1,MatOk t c.pattern h x:=hX ▸ P2 hE ho hm
     rw [if_pos h27',zZ hl,<- hk0e,<- hX] at hW
     have Y:=wa Y (wa (aA hl) (wa (Eq.symm hk0e) h27'))
     refine wv (h:=aB ((by have hq:=C5 t ht p c hE h ho m hm inj;rw [<- hX,Cond.c_eq,h27'] at hq;unfold Types.d Types.c Host.d Host.c Mat.d Mat.c dLI dI at hq;exact hq)) wl ?_)
     refine dP (λh29=>?_) λh29=>?_
     .rw [if_pos (bX h29)] at hW
      refine wv (h:=?_)
      exact hQ _ _ (by simp [go_sem,Y,hW,jP,iO,Prf.c_eq,l8,i6,eQ,dLI,eH,fY])
     .rw [if_neg (bX h29)] at hW
      refine wv (h:=bD (λi e H=>(e 5=.adr t.c/\e 6=.adr c.c/\e 7=.adr h.c/\e 8=.adr m.c/\e 4=.bool inj/\e 10=.ptr 0 1 0 0/\e 21=.list (X.1.map Mat.c)/\e 23=dI i)/\(H.get 0=some ⟨282,5,[[dI 0,.nil,.nil,.nil,.nil]],false⟩)/\(0<H.next)/\(i<=X.1.length)/\(TU ((X.1.drop i).map λx=>(x,oO t h inj k0 x))=W)) (λi=>X.1.length - i) 0 ⟨wg,wn,wn,wi,(by exact hW.symm)⟩ λI5 hI5 i e H hi5=>?_)
      obtain ⟨E5,g0_5,n0_5,hi,hA⟩:=hi5
      have Y:=wa Y (wa E5 (wa g0_5 (b8 n0_5)))
      refine wv (h:=?_)
      repeat first|intro _|refine ⟨eL,?_⟩
      refine wq (λh32=>?_) λh32=>?_
      .obtain ⟨wc,wm,wk,we,hw⟩:=Bu t h inj k0 X.1[i]
       have hst:=hA
       rw [vN _ h32,hw] at hst
       simp only [TU] at hst
       have Y:=wa Y (wa h32 (aA h32))
       refine wp (h:=aI ((by have hq:=ih k0 hk0 c.pattern (hCk k0 hk0) hE.pq X.1[i] (hXm _ (aC h32));simp only [hw,Prf.c_eq,Cond.c_eq] at hq;unfold Types.d Types.c Host.d Host.c Mat.d Mat.c dLI dI at hq;exact hq)) wl ?_)
       refine wv (h:=?_)
       repeat first|intro _|refine ⟨eL,?_⟩
       refine wq (λh35=>?_) λh35=>?_
       .rw [if_pos (bX h35)] at hst
        refine wp (h:=?_)
        exact hQ _ _ (by simp [go_sem,Y,<- hst,jP,iO,Prf.c_eq,l8,i6,eQ,dLI,eH,fY])
       .rw [if_neg (bX h35)] at hst
        exact wp (h:=wx hI5 (i+1) ⟨wg,wn,wn,wj,(by exact hst)⟩)
      .rw [jL aD] at hA
       simp only [jD,TU] at hA
       refine wv (h:=?_)
       exact hQ _ _ (by simp [go_sem,Y,<- hA,jP,iO,Prf.c_eq,l8,i6,eQ,dLI,eH,fY])
    .have h27':c.kind≠5:=by simpa using h27
     rw [if_neg h27'] at hW
     refine wv (h:=?_)
     exact hQ _ _ (by simp [go_sem,Y,hW,jP,iO,Prf.c_eq,l8,i6,eQ,dLI,eH,fY])
theorem L6 (t:Types)(k:t.ok)(h:Host)(n:HostOk t h)(a:Bool)(c:Cond)(p:Pattern)(q:CondV t p c)(l:PatOk t p)(m:Mat)(o:MatOk t p h m) :
  Pure Tryz.prog 152 [t.d,.agg c.c,h.d,m.d,.bool a] (.tup [.bool (nS t h a c m).1,dI (nS t h a c m).2]):=by
 have b:=L2 t k h n a c p q l m o
 rw [Cond.c_eq] at b
 obtain ⟨u,r,s,f,i⟩:=Bu t h a c m
 have e:nS t h a c m=if f=10 then (false,0) else (decide (f=0),f):=by unfold nS RL;rw [i]
 simp only [i,Prf.c_eq] at b
 refine Tz.pK ⟨λt=>t==12,λ_=>[]⟩ Tryz.func152 rfl (λQ j=>?_)
 have Y:=wa @Cond.c_eq (wa @Host.d.eq_1 (wa @Host.c.eq_1 (wa @Mat.d.eq_1 (wa @Mat.c.eq_1 @Prf.c_eq))))
 refine wv (h:=aB ((by have b:=b;unfold Types.d Types.c Host.d Host.c Mat.d Mat.c dLI dI at b;exact b)) wl ?_)
 refine dP (λg=>?_) λg=>?_
 .rw [if_pos (bX g)] at e
  exact wv (h:=j _ _ (by simp [go_sem,e]))
 .rw [if_neg (bX g)] at e
  exact wv (h:=j _ _ (by simp [go_sem,e,Ch]))
end Go.Abs
end
