/- Patterns and their matches: what reading values asks. · Laye -/
import Derived.Test.YthalajhajpjjeaaGreatZfAM
import Derived.Test.YthalajhajpjjeaaGreatZfAN
import Derived.Test.YthalajhajpjjeaaGreatZfAF
import Derived.Test.YthalajhajpjjeaaGreatZfAA
import Derived.Test.YthalajhajpjjeaaGreatZfAK
set_option linter.unusedVariables false
set_option linter.unusedSimpArgs false
section
set_option maxRecDepth 100000
set_option maxHeartbeats 4000000
open Go Go.Proofs
namespace Go.Abs
theorem Ml {α:Type}{f:α->Int}{m:Int}(h0:(0:Int)≠m)(h:∀ x,f x≠m):∀ l,gK f l≠m
 | []=>h0
 | x :: l=>by
  simp only [gK];split
  .exact h x
  .exact Ml h0 h l
theorem PW (n:Int)(l:List Test):kX n l≠9:=by
 unfold kX
 split
 .decide
 .split
  .decide
  .refine Ml (by decide) (λx=>?_) l
   unfold sO;split
   .decide
   .split<;>decide
structure PatOk (t:Types) (q:Pattern):Prop where
 vf:(cZ t).2=0
 gg:graphF q.graph=0
 ty:g7 t q.graph=true
 vars:0<=q.vars/\q.vars<=12
 few:q.slots.length<=10/\q.tests.length<=10
 slot:∀ s∈q.slots,gJ t q s=0
 test:∀ x∈q.tests,sO q.vars x=0
theorem L2 {t:Types}{q:Pattern}(h:c5 t q=9\/c5 t q=0):PatOk t q:=by
 have hv:=kG h
 have hne:=H5 t
 have hg9:graphF q.graph≠9:=by
  unfold graphF;repeat' split
  all_goals decide
 have ht9:=PW q.vars q.tests
 unfold c5 at h
 by_cases h1:(cZ t).2=0
 .rw [if_neg aD] at h
  by_cases h2:graphF q.graph=0
  .rw [if_neg aD] at h
   by_cases h3:g7 t q.graph=false
   .rw [if_pos h3] at h;omega
   .rw [if_neg h3] at h
    by_cases h4:inF q.vars 0 12=false
    .rw [if_pos h4] at h;omega
    .rw [if_neg h4] at h
     by_cases h5:10<q.slots.length\/10<q.tests.length
     .rw [if_pos h5] at h;omega
     .rw [if_neg h5] at h
      by_cases h6:gK (gJ t q) q.slots=0
      .rw [if_neg aD] at h
       by_cases h7:kX q.vars q.tests=0
       .refine ⟨h1,h2,by simpa using h3,hv,aD,pH h6,pH ?_⟩
        unfold kX at h7
        split at h7
        .cases h7
        .split at h7
         .cases h7
         .exact h7
       .rw [if_pos h7] at h;omega
      .rw [if_pos h6] at h;omega
  .rw [if_pos h2] at h;omega
 .rw [if_pos h1] at h;omega
theorem Ld {n:Int}{x:Term}(h:termB n x=true)(hn:0<=n):o8 x n.toNat:=by
 simp only [termB,aR,decide_eq_true_eq] at h
 exact ⟨⟨aD,aD⟩,aD,aD⟩
theorem PatOk.tests {t:Types}{q:Pattern}(hp:PatOk t q):∀ x∈q.tests,G2 x q.vars.toNat:=λx hx=>by
 have:=hp.test x hx
 unfold sO at this
 split at this
 .cases this
 .rename_i h1
  split at this
  .rename_i h2
   rw [aR] at h2
   exact ⟨aD,Ld h2.1 hp.vars.1,Ld h2.2 hp.vars.1⟩
  .cases this
theorem PatOk.slots {t:Types}{q:Pattern}(hp:PatOk t q):∀ s∈q.slots,(0<=s.node/\s.node<q.graph.nodes.length)/\(0<=s.attr/\s.attr<(bL t (q.graph.nodes[s.node.toNat]?.getD 0)).length)/\o8 s.term q.vars.toNat:=λs hs=>by
 have:=hp.slot s hs
 have hv:=hp.vars
 unfold gJ at this
 split at this
 .rename_i h1
  simp only [aR,lJ,decide_eq_true_eq,inF,Pattern.kind] at h1
  exact ⟨h1.1.1.1,⟨h1.1.1.2.1,of_decide_eq_true h1.1.1.2.2⟩,⟨aD,aD⟩,aD,aD⟩
 .cases this
structure MOk (t:Types) (p g:Graph) (m:Part):Prop where
 len:m.nodes.length=p.nodes.length
 elen:m.edges.length=p.edges.length
 img:∀ (i:Nat) (hi:i<m.nodes.length) (hp:i<p.nodes.length),(0<=m.nodes[i]/\m.nodes[i]<g.nodes.length)/\v7 t p.nodes[i] (g.nodes[m.nodes[i].toNat]?.getD 0)=true
 eimg:∀ (i:Nat) (hi:i<m.edges.length),0<=m.edges[i]/\m.edges[i]<g.edges.length
theorem rX {t:Types}{p g:Graph}{m:Part}{inj:Bool}(h:iX t p g m inj=0):MOk t p g m:=by
 obtain ⟨⟨h1,h2⟩,h3,h4⟩:=y4 h
 refine ⟨h1,h2,λi hi hp=>⟨h3 _ (aC hi),?_⟩,λi hi=>h4 _ (aC hi)⟩
 unfold iX at h
 rw [if_neg aD] at h
 split at h
 .exact absurd h (by assumption)
 .rename_i h5
  have:=eY _ _ (bW h5) i (dY _) aD
  unfold IG at this
  rw [aA hi,aA hp,Option.getD_some,Option.getD_some] at this
  split at this
  .cases this
  .split at this
   .assumption
   .cases this
theorem MB {S:Srch}{ns:List Int}:∀ (d:Nat) (l es:List Int),es∈Ei S ns d l->es.length=l.length+d/\(∀ x∈l,0<=x/\x<S.g.edges.length->True)/\((∀ x∈l,0<=x/\x<S.g.edges.length)->∀ x∈es,0<=x/\x<S.g.edges.length)
 | 0,l,es,h=>by
  simp only [Ei,bK] at h;subst h
  exact ⟨rfl,λ_ _ _=>trivial,λh=>h⟩
 | d+1,l,es,h=>by
  simp only [Ei,bS,gZ,bP] at h
  obtain ⟨k,⟨hk,_⟩,hr⟩:=h
  obtain ⟨h1,_,h3⟩:=MB d _ es hr
  refine ⟨by simp at h1;omega,λ_ _ _=>trivial,λhl=>h3 λx hx=>?_⟩
  rw [aV,bK] at hx
  rcases hx with hx|rfl
  .exact hl x hx
  .omega
theorem MA {S:Srch}:∀ (d:Nat) (l:List Int) (m:Part),m∈BU S d l->m.nodes.length=l.length+d/\∀ i,l.length<=i->i<l.length+d->∃ k:Nat,m.nodes[i]?=some (k:Int)/\k<S.g.nodes.length/\v7 S.t (S.p.nodes[i]?.getD 0) (S.g.nodes[k]?.getD 0)=true
 | 0,l,m,h=>by
  simp only [BU,bA] at h
  obtain ⟨es,_,rfl⟩:=h
  exact ⟨rfl,λi h1 h2=>by omega⟩
 | d+1,l,m,h=>by
  have h':=h
  simp only [BU,bS,gZ,bP] at h
  obtain ⟨k,⟨hk,ho⟩,hr⟩:=h
  obtain ⟨h1,h2⟩:=MA d _ m hr
  simp at h1 h2
  refine ⟨aD,λi h3 h4=>?_⟩
  by_cases hi:i=l.length
  .subst hi
   obtain ⟨⟨r,hr2⟩,_⟩:=yL d _ m hr
   refine ⟨k,by rw [hr2];simp,hk,?_⟩
   simp only [It,aR] at ho
   exact ho.2.2
  .exact h2 i aD aD
theorem Sl {S:Srch}{m:Part}(h:m∈AW S):MOk S.t S.p S.g m:=by
 unfold AW at h
 obtain ⟨h1,h2⟩:=MA _ _ m h
 obtain ⟨_,h3⟩:=yL _ _ m h
 obtain ⟨h4,_,h5⟩:=MB _ _ _ h3
 simp at h1 h2 h4
 refine ⟨h1,h4,λi hi hp=>?_,λi hi=>h5 (by intro x hx;cases hx) _ (aC hi)⟩
 obtain ⟨k,k1,k2,k3⟩:=h2 i aD
 rw [aA hi] at k1
 have hk:m.nodes[i]=(k:Int):=Option.some.inj k1
 rw [aA hp,Option.getD_some] at k3
 rw [hk]
 exact ⟨aD,by simpa using k3⟩
theorem DL {t:Types}{h:Host}(ho:HostOk t h):∀ a∈h.graph.nodes,0<=a/\a<t.nodes.length:=λa ha=>by
 obtain ⟨i,hi,rfl⟩:=aO ha
 have:=ho.vl
 exact ⟨((eL ho.gg).1 _ ha).1,(r5 (ho.nd i hi aD)).1⟩
theorem Ue {t:Types}{q:Pattern}{h:Host}{m:Part}(hp:PatOk t q)(ho:HostOk t h)(hm:MOk t q.graph h.graph m):SOk q h m where
 vars:=hp.vars
 node s hs:=by have:=hp.slots s hs;have:=hm.len;omega
 img k hk:=by
  obtain ⟨i,hi,rfl⟩:=aO hk
  have:=(hm.img i hi (by have:=hm.len;omega)).1
  have:=ho.vl
  omega
 attr s hs:=by
  obtain ⟨h1,h2,_⟩:=hp.slots s hs
  have hl:=hm.len
  have hi:s.node.toNat<m.nodes.length:=aD
  have hq:s.node.toNat<q.graph.nodes.length:=aD
  obtain ⟨h3,h4⟩:=hm.img _ hi hq
  have hvl:=ho.vl
  have hk:m.nodes[s.node.toNat].toNat<h.graph.nodes.length:=aD
  have hkv:m.nodes[s.node.toNat].toNat<h.values.length:=aD
  rw [aA hi,Option.getD_some,aA hkv,Option.getD_some]
  rw [aA hq,Option.getD_some] at h2
  rw [aA hk,Option.getD_some] at h4
  have ha:=(nT hp.gg hp.ty).1 _ (aC hq)
  have hb:=DL ho _ (aC hk)
  rw [rK hp.vf ha.1 ha.2] at h2
  have hrow:=(r5 (ho.nd _ hk hkv)).2.2.1
  rw [rK hp.vf hb.1 hb.2] at hrow
  unfold v7 at h4
  obtain ⟨r,hr⟩:=Je (nC hp.vf) (h.graph.nodes[m.nodes[s.node.toNat].toNat]).toNat aD (q.graph.nodes[s.node.toNat]).toNat (by rw [Int.toNat_of_nonneg ha.1];exact h4)
  rw [hr,aL] at hrow
  omega
 small l hl v hv:=(ho.row l hl).2 v hv
 term s hs:=(hp.slots s hs).2.2
 test:=hp.tests
/-! ### values -/
def Jv (p:Pattern)(vs:List Int):List Int × List Bool:=(vs++List.replicate (p.vars.toNat - vs.length) 0,List.replicate vs.length true++List.replicate (p.vars.toNat - vs.length) false)
theorem Ew (p:Pattern):Jv p []=(List.replicate p.vars.toNat 0,List.replicate p.vars.toNat false):=by simp [Jv]
theorem eG {p:Pattern}{h:Host}{m:Part}{vs:List Int}(h0:jA h m (Jv p vs) p.slots=none):fC p h m vs=([],11):=by
 unfold fC;unfold Jv at h0;rw [h0]
theorem oH {p:Pattern}{h:Host}{m:Part}{vs:List Int}{q:List Int × List Bool}(h0:jA h m (Jv p vs) p.slots=some q):fC p h m vs=if p.tests.all (λx=>zK x q.1)=true then (q.1,0) else ([],16):=by
 unfold fC;unfold Jv at h0;rw [h0]
structure StOk (n:Nat) (st:List Int × List Bool):Prop where
 l1:st.1.length=n
 l2:st.2.length=n
 sm:∀ v∈st.1,-2000000<=v/\v<=2000000
theorem StOk.big {n:Nat}{st:List Int × List Bool}(h:StOk n st):Sm st.1:=λv hv=>by have:=h.sm v hv;omega
theorem Lf {p:Pattern}{vs:List Int}(hv:0<=p.vars)(hl:vs.length<=p.vars.toNat)(hs:∀ v∈vs,-2000000<=v/\v<=2000000):StOk p.vars.toNat (Jv p vs):=by
 refine ⟨by simp [Jv];omega,by simp [Jv];omega,λv h=>?_⟩
 simp only [Jv,aV,List.mem_replicate] at h
 rcases h with h|h
 .exact hs v h
 .omega
theorem xF {n:Nat}{h:Host}{m:Part}{st:List Int × List Bool}{s:Slot}(hst:StOk n st)(hb : -1000000<=lH h m s/\lH h m s<=1000000)(ht:o8 s.term n):StOk n (lP h m st s):=by
 unfold lP
 split
 .refine ⟨by simp [hst.l1],by simp [hst.l2],λv hv=>?_⟩
  rcases mK hv with h1|rfl
  .exact hst.sm v h1
  .have:=ht.2;omega
 .exact hst
theorem SOk.have_ {p:Pattern}{h:Host}{m:Part}(hO:SOk p h m){s:Slot}(hs:s∈p.slots) : -1000000<=lH h m s/\lH h m s<=1000000:=by
 have hn:=hO.node s hs
 have hn2:s.node.toNat<m.nodes.length:=aD
 have hk:=hO.img _ (aC hn2)
 have hk2:(m.nodes[s.node.toNat]).toNat<h.values.length:=aD
 have ha:=hO.attr s hs
 unfold lH
 rw [aA hn2,Option.getD_some,aA hk2,Option.getD_some] at ha ⊢
 have ha2:s.attr.toNat<(h.values[(m.nodes[s.node.toNat]).toNat]).length:=aD
 rw [aA ha2]
 exact hO.small _ (aC hk2) _ (aC ha2)
theorem Ic {p:Pattern}{h:Host}{m:Part}(hO:SOk p h m):∀ (l:List Slot) (st q:List Int × List Bool),(∀ s∈l,s∈p.slots)->StOk p.vars.toNat st->jA h m st l=some q->StOk p.vars.toNat q
 | [],st,q,_,hst,hq=>by simp only [jA,bD] at hq;exact hq ▸ hst
 | s :: l,st,q,hl,hst,hq=>by
  simp only [jA] at hq
  split at hq
  .have hs:=hl s (fO ..)
   exact Ic hO l _ q (λx hx=>hl x (dD _ hx)) (xF hst (hO.have_ hs) (hO.term s hs)) hq
  .cases hq
theorem Aq {p:Pattern}{h:Host}{m:Part}(hO:SOk p h m){vs:List Int}(hl:vs.length<=p.vars.toNat)(hs:∀ v∈vs,-2000000<=v/\v<=2000000)(h0:(fC p h m vs).2=0) :
  (fC p h m vs).1.length=p.vars.toNat/\∀ v∈(fC p h m vs).1,-2000000<=v/\v<=2000000:=by
 cases hq:jA h m (Jv p vs) p.slots with
 | none=>rw [eG hq] at h0;cases h0
 | some q =>
  have hk:=Ic hO _ _ _ (λ_ h=>h) (Lf hO.vars.1 hl hs) hq
  rw [oH hq] at h0 ⊢
  split at h0
  .rename_i h1;rw [if_pos h1];exact ⟨hk.l1,hk.sm⟩
  .cases h0
theorem u9 (q:Pattern)(h:Host)(vars:List Int)(l:List Part)(x:Part):zT q h vars (l++[x])=zT q h vars l++if (fC q h x vars).2=0 then [⟨x,(fC q h x vars).1⟩] else []:=by
 unfold zT
 rw [List.filterMap_append]
 congr 1
 simp only [List.filterMap_cons,List.filterMap_nil]
 split<;>simp_all
theorem j5 (o:Option Bool):(Option.map cB o).getD [D.bool false]=cB (o.getD false):=by cases o<;>rfl
theorem JW (p:Pattern)(h:Host)(m:Part)(hO:SOk p h m):Pure Tryz.prog 249 [p.d,h.d,m.d] (.tup [dLI (fC p h m []).1,dI (fC p h m []).2]):=by
 have hv:=hO.vars
 have h0:=Lf (vs:=[]) hv.1 bV bV
 rw [Ew] at h0
 refine Tz.pK ⟨λt=>t==11,λ_=>[]⟩ Tryz.func249 rfl (λQ hQ=>?_)
 have Y:=wa @Pattern.d.eq_1 (wa @Pattern.c.eq_1 (wa @Host.d.eq_1 (wa @Host.c.eq_1 (wa @Part.d.eq_1 (wa @Part.c.eq_1 @Term.c.eq_1)))))
 refine wp (h:=bF (λi e H=>∃ st:List Int × List Bool,(e 3=.adr p.c/\e 4=.adr h.c/\e 5=.adr m.c/\e 8=.own 0 p.vars.toNat/\e 9=.own 1 p.vars.toNat/\e 10=dI i)/\(H.get 0=some ⟨3,1,st.1.map cI,false⟩)/\(0<H.next)/\(H.get 1=some ⟨4,1,st.2.map cB,false⟩)/\(1<H.next)/\(i<=p.slots.length)/\(StOk p.vars.toNat st)/\(jA h m (Jv p []) (p.slots.take i)=some st)) (λi=>p.slots.length - i) 0 ⟨((List.replicate p.vars.toNat 0,List.replicate p.vars.toNat false)),wg,(by simp [go_sem,cI]),wn,(by simp [go_sem,cB]),wn,wi,(by exact h0),(by rw [Ew];rfl)⟩ λI0 hI0 i e H hi0=>?_)
 obtain ⟨st,E0,g0_0,n0_0,g1_0,n1_0,hi,hst,hsl⟩:=hi0
 have Y:=wa Y (wa E0 (wa g0_0 (wa (cD n0_0) (wa g1_0 (cD n1_0)))))
 refine wv (h:=?_)
 repeat first|intro _|refine ⟨eQ,?_⟩
 refine wq (λh4=>?_) λh4=>?_
 .obtain ⟨x,hx⟩:=cF (p.slots[i])
  have hxm:x∈p.slots:=hx ▸ aC h4
  have hn:=hO.node x hxm
  have hn2:x.node.toNat<m.nodes.length:=aD
  have hk:=hO.img _ (aC hn2)
  have hk2:(m.nodes[x.node.toNat]).toNat<h.values.length:=aD
  have ha:=hO.attr x hxm
  rw [aA hn2,Option.getD_some,aA hk2,Option.getD_some] at ha
  have ha2:x.attr.toNat<(h.values[(m.nodes[x.node.toNat]).toNat]).length:=aD
  have hV:lH h m x=h.values[(m.nodes[x.node.toNat]).toNat][x.attr.toNat]:=by unfold lH;rw [aA hn2,Option.getD_some,aA hk2,Option.getD_some,aA ha2];rfl
  have hb:=hO.have_ hxm
  have hT:=hO.term x hxm
  have hl1:=hst.l1
  have hl2:=hst.l2
  have hTv:=hT.1
  have hTa:=hT.2
  have hSt:=sP h4 hsl
  rw [<- hx] at hSt
  obtain ⟨s2,hs2e⟩:∃ y,y=lP h m st x:=⟨_,rfl⟩
  have hs2:StOk p.vars.toNat s2:=hs2e ▸ xF hst hb hT
  rw [<- hs2e] at hSt
  have hs2n:¬ 0<=x.term.var->s2=st:=λhn=>by rw [hs2e];unfold lP kJ;rw [if_neg (by simp [hn])]
  have vlt:0<=x.term.var->x.term.var.toNat<st.2.length:=λhn=>by omega
  obtain ⟨kb,hkb⟩:=cF (st.2[x.term.var.toNat]?.getD false)
  have hcase:0<=x.term.var\/(¬ 0<=x.term.var/\st.2[x.term.var.toNat]?=none)\/(¬ 0<=x.term.var/\st.2[x.term.var.toNat]?=some kb):=by
   by_cases hsp:0<=x.term.var
   .exact .inl hsp
   .right
    cases ho:st.2[x.term.var.toNat]? with
    | none=>exact .inl ⟨hsp,rfl⟩
    | some b=>rw [ho] at hkb;exact .inr ⟨hsp,by rw [hkb];rfl⟩
  rcases hcase with hc|hc|hc
  .have Y:=wa Y (wa h4 (wa (aA h4) (wa (Eq.symm hx) (wa (aA hn2) (wa (aA hk2) (wa (aA ha2) (wa (Eq.symm hV) (wa @Slot.c.eq_1 (wa @cL.eq_1 (wa hl1 (wa hl2 (wa @j5 (wa @cB.eq_1 (wa hc ((aA (vlt hc)))))))))))))))))
   refine wv (h:=?_)
   repeat first|intro _|refine ⟨eQ,?_⟩
   refine wq (λh9=>?_) λh9=>?_
   .have hF:kJ st x=true:=by simp only [kJ,aR,decide_eq_true_eq,c9];exact ⟨hc,by simpa [aA (vlt hc)] using h9⟩
    unfold lP at hs2e
    rw [if_pos hF] at hs2e
    have hvl:x.term.var.toNat<st.1.length:=aD
    have e1:s2.1.map cI=(st.1.map cI).set x.term.var.toNat (cI (lH h m x - x.term.add)):=by rw [hs2e,bX]
    have e2:s2.2.map cB=(st.2.map cB).set x.term.var.toNat (cB true):=by rw [hs2e,bX]
    have ecl:D.clLL ((st.1.map cI).set x.term.var.toNat [D.int .i64 (lH h m x - x.term.add)])=true:=by have:=pZ s2.1;rw [e1] at this;exact this
    have Y:=wa Y (wa e1 (wa e2 (wa @dLI.eq_1 (wa @cI.eq_1 (wa (aA hvl) ecl)))))
    refine wp (h:=dW (qA x.term s2.1 (by rw [hs2.l1];exact hT) hs2.big) wr wl rfl ?_)
    refine wv (h:=?_)
    repeat first|intro _|refine ⟨eQ,?_⟩
    refine wq (λh12=>?_) λh12=>?_
    .have hR:=eG (hSt.2 (by first|simpa using h12|simpa [hs2n hc.1] using h12|simpa [hs2e] using h12))
     exact wv (h:=hQ _ _ (by simp [go_sem,hR]))
    .have hstep:=hSt.1 (by first|simpa using h12|simpa [hs2n hc.1] using h12|simpa [hs2e] using h12)
     exact wp (h:=wx hI0 (i+1) ⟨s2,wg,(by simp [go_sem,Y]),wn,(by simp [go_sem,Y]),wn,wj,(by exact hs2),(by exact hstep)⟩)
   .have hF:¬ kJ st x=true:=by simp only [kJ,aR,decide_eq_true_eq,c9];rintro ⟨_,hk⟩;simp [aA (vlt hc)] at hk;simp [hk] at h9
    unfold lP at hs2e
    rw [if_neg hF] at hs2e
    have Y:=wa Y hs2e
    refine wv (h:=dW (qA x.term s2.1 (by rw [hs2.l1];exact hT) hs2.big) wr wl rfl ?_)
    refine dP (λh12=>?_) λh12=>?_
    .have hR:=eG (hSt.2 (by first|simpa using h12|simpa [hs2n hc.1] using h12|simpa [hs2e] using h12))
     exact wv (h:=hQ _ _ (by simp [go_sem,hR]))
    .have hstep:=hSt.1 (by first|simpa using h12|simpa [hs2n hc.1] using h12|simpa [hs2e] using h12)
     exact wp (h:=wx hI0 (i+1) ⟨s2,wg,(by simp [go_sem,Y]),wn,(by simp [go_sem,Y]),wn,wj,(by exact hs2),(by exact hstep)⟩)
  .have Y:=wa Y (wa h4 (wa (aA h4) (wa (Eq.symm hx) (wa (aA hn2) (wa (aA hk2) (wa (aA ha2) (wa (Eq.symm hV) (wa @Slot.c.eq_1 (wa @cL.eq_1 (wa hl1 (wa hl2 (wa @j5 (wa @cB.eq_1 (wa hc.1 (wa hc.2 (hs2n hc.1))))))))))))))))
   refine wp (h:=dW (qA x.term s2.1 (by rw [hs2.l1];exact hT) hs2.big) wr wl rfl ?_)
   refine wv (h:=?_)
   repeat first|intro _|refine ⟨eQ,?_⟩
   refine wq (λh12=>?_) λh12=>?_
   .have hR:=eG (hSt.2 (by first|simpa using h12|simpa [hs2n hc.1] using h12|simpa [hs2e] using h12))
    exact wv (h:=hQ _ _ (by simp [go_sem,hR]))
   .have hstep:=hSt.1 (by first|simpa using h12|simpa [hs2n hc.1] using h12|simpa [hs2e] using h12)
    exact wp (h:=wx hI0 (i+1) ⟨s2,wg,(by simp [go_sem,Y]),wn,(by simp [go_sem,Y]),wn,wj,(by exact hs2),(by exact hstep)⟩)
  .have Y:=wa Y (wa h4 (wa (aA h4) (wa (Eq.symm hx) (wa (aA hn2) (wa (aA hk2) (wa (aA ha2) (wa (Eq.symm hV) (wa @Slot.c.eq_1 (wa @cL.eq_1 (wa hl1 (wa hl2 (wa @j5 (wa @cB.eq_1 (wa hc.1 (wa hc.2 (hs2n hc.1))))))))))))))))
   refine wp (h:=dW (qA x.term s2.1 (by rw [hs2.l1];exact hT) hs2.big) wr wl rfl ?_)
   refine wv (h:=?_)
   repeat first|intro _|refine ⟨eQ,?_⟩
   refine wq (λh12=>?_) λh12=>?_
   .have hR:=eG (hSt.2 (by first|simpa using h12|simpa [hs2n hc.1] using h12|simpa [hs2e] using h12))
    exact wv (h:=hQ _ _ (by simp [go_sem,hR]))
   .have hstep:=hSt.1 (by first|simpa using h12|simpa [hs2n hc.1] using h12|simpa [hs2e] using h12)
    exact wp (h:=wx hI0 (i+1) ⟨s2,wg,(by simp [go_sem,Y]),wn,(by simp [go_sem,Y]),wn,wj,(by exact hs2),(by exact hstep)⟩)
 .rw [aH aD] at hsl
  have hR0:=oH hsl
  have hl1:=hst.l1
  have Y:=wa Y hl1
  refine wv (h:=bF (λk e H=>(e 3=.adr p.c/\e 4=.adr h.c/\e 5=.adr m.c/\e 8=.own 0 p.vars.toNat/\e 14=dI k)/\(H.get 0=some ⟨3,1,st.1.map cI,false⟩)/\(0<H.next)/\(k<=p.tests.length)/\((p.tests.take k).all (λx=>zK x st.1)=true)) (λk=>p.tests.length - k) 0 ⟨wg,wn,wn,wi,(by rfl)⟩ λI2 hI2 k e H hi2=>?_)
  obtain ⟨E2,g0_2,n0_2,hk,hall⟩:=hi2
  have Y:=wa Y (wa E2 (wa g0_2 (cD n0_2)))
  refine wv (h:=?_)
  repeat first|intro _|refine ⟨eQ,?_⟩
  refine wq (λh15=>?_) λh15=>?_
  .have Y:=wa Y (wa h15 (wa (aA h15) @Test.c.eq_1))
   refine wp (h:=dW (LV p.tests[k] st.1 (by rw [hst.l1];exact hO.test _ (aC h15)) hst.big) wr wl rfl ?_)
   refine wv (h:=?_)
   repeat first|intro _|refine ⟨eQ,?_⟩
   refine wq (λh17=>?_) λh17=>?_
   .have hR:fC p h m []=([],16):=by
     rw [hR0,if_neg]
     intro ha
     rw [cO] at ha
     have:=ha _ (aC h15)
     simp [this] at h17
    exact wv (h:=hQ _ _ (by simp [go_sem,hR]))
   .exact wp (h:=wx hI2 (k+1) ⟨wg,wn,wn,wj,(by rw [aE h15,A0,hall];simp;simpa using h17)⟩)
  .rw [aH aD] at hall
   rw [if_pos hall] at hR0
   exact wv (h:=hQ _ _ (by simp [go_sem,Y,hR0,dLI]))
def zN (t:Types)(p:Pattern)(h:Host):Int:=if c5 t p≠0 then c5 t p else iF t h
theorem LG (t:Types)(ht:t.ok)(p:Pattern)(h:Host):Pure Tryz.prog 248 [t.d,p.d,h.d] (dI (zN t p h)):=by
 refine Tz.pK ⟨λ_=>false,λ_=>[]⟩ Tryz.func248 rfl (λQ hQ=>?_)
 have Y:=wa @Host.d.eq_1 @Host.c.eq_1
 refine wv (h:=aB (sS t ht p) wl ?_)
 refine dP (λh2=>?_) λh2=>?_
 .exact wv (h:=hQ _ _ (by simp [go_sem,zN,h2]))
 .refine wv (h:=aB (xO t ht h) wl ?_)
  exact wv (h:=hQ _ _ (by simp [go_sem,zN,h2,iF]))
theorem LH (t:Types)(ht:t.ok)(p:Pattern)(h:Host)(m:Part):Pure Tryz.prog 149 [t.d,p.d,h.d,m.d] (.tup [dLI (d9 t p h m).1,dI (d9 t p h m).2]):=by
 refine Tz.pK ⟨λ_=>false,λ_=>[]⟩ Tryz.func149 rfl (λQ hQ=>?_)
 have Y:=wa @Pattern.d.eq_1 (wa @Pattern.c.eq_1 (wa @Host.d.eq_1 @Host.c.eq_1))
 refine wv (h:=aB (LG t ht p h) wl ?_)
 refine dP (λh2=>?_) λh2=>?_
 .have hS:d9 t p h m=([],zN t p h):=by
   unfold d9 zN
   unfold zN at h2
   by_cases hp:c5 t p=0
   .rw [if_neg aD] at h2 ⊢
    rw [if_pos h2,if_neg aD]
   .rw [if_pos hp,if_pos hp]
  exact wv (h:=hQ _ _ (by simp [go_sem,hS]))
 .have hp0:c5 t p=0:=by
   unfold zN at h2
   refine bB λhp=>?_
   rw [if_pos hp] at h2;exact hp h2
  have hh0:iF t h=0:=by unfold zN at h2;rw [if_neg aD] at h2;exact h2
  refine wv (h:=aB (xN t ht p.graph h.graph m false) wl ?_)
  refine dP (λh5=>?_) λh5=>?_
  .have hS:d9 t p h m=([],fN t p.graph h.graph m false):=by unfold d9;rw [if_neg aD,if_neg aD,if_pos h5]
   exact wv (h:=hQ _ _ (by simp [go_sem,hS]))
  .have h5':fN t p.graph h.graph m false=0:=aD
   have hS:d9 t p h m=fC p h m []:=by unfold d9;rw [if_neg aD,if_neg aD,if_neg aD]
   refine wv (h:=aB (JW p h m (Ue (L2 (.inr hp0)) (r4 hh0) (rX (rJ h5').2))) wl ?_)
   exact wv (h:=hQ _ _ (by simp [go_sem,hS]))
theorem Tk (l:List Part):(MK l).1.length<=5000:=by
 unfold MK;split
 .simp
 .simp only;omega
theorem Ps (t:Types)(p g:Graph)(q:Part)(inj:Bool):(mY t p g q inj).1.length<=5000:=by
 unfold mY;split
 .simp
 .split
  .simp
  .split
   .simp
   .split
    .simp
    .exact Tk _
def L0 (at_ im:List Int)(n i:Nat):List Int:=(List.range i).foldl (λacc i=>acc.set (at_[i]?.getD 0).toNat (im[i]?.getD 0)) (List.replicate n (-1))
theorem FQ (at_ im:List Int)(n i:Nat):L0 at_ im n (i+1)=(L0 at_ im n i).set (at_[i]?.getD 0).toNat (im[i]?.getD 0):=by unfold L0;rw [eE]
theorem Bt (at_ im:List Int)(n:Nat):∀ i,(L0 at_ im n i).length=n
 | 0=>by simp [L0]
 | i+1=>by rw [FQ,iZ];exact Bt at_ im n i
theorem Bp (n:Nat)(hn:n<=1000000)(at_ im:List Int)(h1:∀ x∈at_,0<=x/\x<n)(h2:at_.length<=im.length):Pure Tryz.prog 393 [dI n,dLI at_,dLI im] (dLI (xV n at_ im)):=by
 refine Tz.pK ⟨λt=>t==7,λ_=>[]⟩ Tryz.func393 rfl (λQ hQ=>?_)
 have Y:=trivial
 refine wv (h:=bF (λi e H=>(e 0=dI n/\e 1=dLI at_/\e 2=dLI im/\e 7=.own 0 i/\e 8=dI i)/\(H.get 0=some ⟨3,1,(List.replicate i (-1:Int)).map cI,false⟩)/\(0<H.next)/\(i<=n)) (λi=>n - i) 0 ⟨wg,(by simp [go_sem]),wn,wi⟩ λI0 hI0 i e H hi0=>?_)
 obtain ⟨E0,g0_0,n0_0,hi⟩:=hi0
 have Y:=wa Y (wa E0 (wa g0_0 (cD n0_0)))
 refine dP (λh3=>?_) λh3=>?_
 .have Y:=wa Y h3
  exact wp (h:=wx hI0 (i+1) ⟨wg,(by simp [go_sem,Y,List.replicate_succ',cI]),wn,wj⟩)
 .have hin:i=n:=aD
  refine wv (h:=bF (λk e H=>(e 0=dI n/\e 1=dLI at_/\e 2=dLI im/\e 7=.own 0 n/\e 9=dI k)/\(H.get 0=some ⟨3,1,(L0 at_ im n k).map cI,false⟩)/\(0<H.next)/\(k<=at_.length)/\((L0 at_ im n k).length=n)) (λk=>at_.length - k) 0 ⟨wg,(by simp [go_sem,Y,L0,hin]),wn,wi,(by exact Bt _ _ _ _)⟩ λI2 hI2 k e H hi2=>?_)
  obtain ⟨E2,g0_2,n0_2,hk,hpl⟩:=hi2
  have Y:=wa Y (wa E2 (wa g0_2 (wa (cD n0_2) hpl)))
  refine wv (h:=?_)
  repeat first|intro _|refine ⟨eQ,?_⟩
  refine wq (λh7=>?_) λh7=>?_
  .have hki:k<im.length:=aD
   have ha:=h1 _ (aC h7)
   have ha0:at_[k]?.getD 0=at_[k]:=by rw [aA h7];rfl
   have hi0:im[k]?.getD 0=im[k]:=by rw [aA hki];rfl
   have hal:at_[k].toNat<(L0 at_ im n k).length:=aD
   have Y:=wa Y (wa h7 (wa (aA h7) (wa (aA hki) (aA hal))))
   exact wp (h:=wx hI2 (k+1) ⟨wg,(by simp [go_sem,Y,FQ,bX,ha0,hi0,cI]),wn,wj,(by exact Bt _ _ _ _)⟩)
  .have hP:xV n at_ im=L0 at_ im n k:=by unfold xV L0;rw [(aD:k=at_.length)]
   exact wv (h:=hQ _ _ (by simp [go_sem,Y,hP,dLI]))
def Ka (len i:Nat):List Bool:=(List.range i).map λj=>decide (j<len)
theorem RJ (len i:Nat):Ka len (i+1)=Ka len i++[decide (i<len)]:=by simp [Ka,dF]
theorem J8 (len i:Nat):(Ka len i).length=i:=by simp [Ka]
theorem J9 (len n:Nat)(h:len<=n):Ka len n=List.replicate len true++List.replicate (n - len) false:=by
 apply fV (by simp [Ka];omega)
 intro i h1 h2
 simp only [Ka,oF,pA,List.getElem_append,List.getElem_replicate,d7]
 split
 .rename_i h3;simpa using h3
 .rename_i h3;simpa using h3
theorem S5 (len i n:Nat)(h:i<n):(Ka len i++List.replicate (n - i) false).set i (decide (i<len))=Ka len (i+1)++List.replicate (n - (i+1)) false:=by
 rw [l5 _ _ (by rw [J8];omega),J8,w3,RJ,show n - i=(n - (i+1))+1 by omega,sI]
 simp
def QF (len n i:Nat):List Bool:=Ka len i++List.replicate (n - i) false
theorem RK (len n:Nat):QF len n 0=List.replicate n false:=by simp [QF,Ka]
theorem S7 {len n i:Nat}(h:i<=n):(QF len n i).length=n:=by simp [QF,J8];omega
theorem S6 {len n i:Nat}(h:i<n):(QF len n i).set i (decide (i<len))=QF len n (i+1):=S5 len i n h
theorem Pk (len n:Nat):QF len n n=Ka len n:=by simp [QF]
def G3 (vs:List Int)(i:Nat):List Int:=vs++List.replicate (i - vs.length) 0
theorem KS (vs:List Int)(i:Nat):G3 vs (i+1)=if vs.length<=i then G3 vs i++[0] else G3 vs i:=by
 unfold G3
 split
 .rename_i h;rw [(aD:i+1 - vs.length=(i - vs.length)+1),List.replicate_succ',List.append_assoc]
 .rename_i h;rw [(aD:i+1 - vs.length=0),(aD:i - vs.length=0)]
theorem OV (vs:List Int)(i:Nat):(G3 vs i).length=max vs.length i:=by simp [G3];omega
theorem Rg {x:Test}{vs:List Int}{n:Nat}(hx:G2 x n):zK x vs = !((decide (x.kind=1)&&decide (c8 x.right vs<c8 x.left vs))||(decide (x.kind=2)&&!decide (c8 x.left vs=c8 x.right vs))):=by
 rcases hx.1 with h|h
 .unfold zK;rw [h];simp
  rw [aT];simp
 .unfold zK;rw [h];simp
theorem JU (p:Pattern)(h:Host)(m:Part)(hO:SOk p h m)(vs:List Int)(hl:vs.length<=p.vars.toNat)(hs:∀ v∈vs,-2000000<=v/\v<=2000000) :
  Pure Tryz.prog 395 [p.d,h.d,m.d,dLI vs] (.tup [dLI (fC p h m vs).1,.bool (decide ((fC p h m vs).2=0))]):=by
 have hv:=hO.vars
 have h0:=Lf hv.1 hl hs
 have hva0:G3 vs 0=vs:=by simp [G3]
 have hst0:Jv p vs=(G3 vs p.vars.toNat,Ka vs.length p.vars.toNat):=by unfold Jv;rw [J9 _ _ hl];rfl
 refine Tz.pK ⟨λt=>t==14||t==19||t==24,λr=>match r with|15=>[(5,14),(6,14),(7,14)]|_=>[]⟩ Tryz.func395 rfl (λQ hQ=>?_)
 have Y:=wa hva0 (wa @Pattern.d.eq_1 (wa @Pattern.c.eq_1 (wa @Host.d.eq_1 (wa @Host.c.eq_1 (wa @Part.d.eq_1 (wa @Part.c.eq_1 @Term.c.eq_1))))))
 refine wp (h:=bF (λi e H=>(e 4=.adr p.c/\e 5=.adr h.c/\e 6=.adr m.c/\e 3=dLI vs/\e 10=.own 0 (G3 vs i).length/\e 11=.own 1 p.vars.toNat/\e 12=dI i)/\(H.get 0=some ⟨3,1,(G3 vs i).map cI,false⟩)/\(0<H.next)/\(H.get 1=some ⟨4,1,(QF vs.length p.vars.toNat i).map cB,false⟩)/\(1<H.next)/\(i<=p.vars.toNat)) (λi=>p.vars.toNat - i) 0 ⟨wg,(by simp [go_sem,G3]),wn,(by simp [go_sem,RK,cB]),wn,wi⟩ λI0 hI0 i e H hi0=>?_)
 obtain ⟨E0,g0_0,n0_0,g1_0,n1_0,hi⟩:=hi0
 have Y:=wa Y (wa E0 (wa g0_0 (wa (cD n0_0) (wa g1_0 (cD n1_0)))))
 refine dP (λh4=>?_) λh4=>?_
 .have hI:=OV vs i
  have hK:=S6 (len:=vs.length) (n:=p.vars.toNat) (i:=i) aD
  have hKl:=S7 (len:=vs.length) (n:=p.vars.toNat) (i:=i) aD
  have hKi:i<(QF vs.length p.vars.toNat i).length:=aD
  have hKm:((QF vs.length p.vars.toNat i).map cB).set i [.bool (decide (i<vs.length))]=(QF vs.length p.vars.toNat (i+1)).map cB:=by rw [<- hK,bX];rfl
  have Y:=wa Y (wa h4 (wa hKl (wa (aA hKi) hKm)))
  refine wv (h:=?_)
  repeat first|intro _|refine ⟨eQ,?_⟩
  refine wq (λh7=>?_) λh7=>?_
  .have hVs:G3 vs (i+1)=G3 vs i++[0]:=by rw [KS,if_pos aD]
   have Y:=wa Y hVs
   exact wp (h:=wx hI0 (i+1) ⟨wg,(by simp [go_sem,Y]),wn,(by simp [go_sem,Y]),wn,wj⟩)
  .have hVs:G3 vs (i+1)=G3 vs i:=by rw [KS,if_neg aD]
   have Y:=wa Y hVs
   exact wp (h:=wx hI0 (i+1) ⟨wg,(by simp [go_sem,Y]),wn,(by simp [go_sem,Y]),wn,wj⟩)
 .have hin:i=p.vars.toNat:=aD
  have hI:=OV vs i
  rw [hin,Nat.max_eq_right hl] at hI
  have hK0:QF vs.length i i=Ka vs.length i:=Pk _ _
  have hK1:=Pk vs.length p.vars.toNat
  have Y:=wa Y (wa hin (wa hI hK1))
  refine wv (h:=bF (λi e H=>∃ st:List Int × List Bool,(e 4=.adr p.c/\e 5=.adr h.c/\e 6=.adr m.c/\e 3=dLI vs/\e 10=.own 0 p.vars.toNat/\e 11=.own 1 p.vars.toNat/\e 13=dI i)/\(H.get 0=some ⟨3,1,st.1.map cI,false⟩)/\(0<H.next)/\(H.get 1=some ⟨4,1,st.2.map cB,false⟩)/\(1<H.next)/\(i<=p.slots.length)/\(StOk p.vars.toNat st)/\(jA h m (Jv p vs) (p.slots.take i)=some st)) (λi=>p.slots.length - i) 0 ⟨((G3 vs p.vars.toNat,Ka vs.length p.vars.toNat)),wg,(by simp [go_sem,Y,hin]),wn,(by simp [go_sem,Y,hin,hK1]),wn,wi,(by rw [<- hst0];exact h0),(by rw [hst0];rfl)⟩ λI2 hI2 i e H hi2=>?_)
  obtain ⟨st,E2,g0_2,n0_2,g1_2,n1_2,hi,hst,hsl⟩:=hi2
  have Y:=wa Y (wa E2 (wa g0_2 (wa (cD n0_2) (wa g1_2 (cD n1_2)))))
  refine wv (h:=?_)
  repeat first|intro _|refine ⟨eQ,?_⟩
  refine wq (λh10=>?_) λh10=>?_
  .obtain ⟨x,hx⟩:=cF (p.slots[i])
   have hxm:x∈p.slots:=hx ▸ aC h10
   have hn:=hO.node x hxm
   have hn2:x.node.toNat<m.nodes.length:=aD
   have hk:=hO.img _ (aC hn2)
   have hk2:(m.nodes[x.node.toNat]).toNat<h.values.length:=aD
   have ha:=hO.attr x hxm
   rw [aA hn2,Option.getD_some,aA hk2,Option.getD_some] at ha
   have ha2:x.attr.toNat<(h.values[(m.nodes[x.node.toNat]).toNat]).length:=aD
   have hV:lH h m x=h.values[(m.nodes[x.node.toNat]).toNat][x.attr.toNat]:=by unfold lH;rw [aA hn2,Option.getD_some,aA hk2,Option.getD_some,aA ha2];rfl
   have hb:=hO.have_ hxm
   have hT:=hO.term x hxm
   have hl1:=hst.l1
   have hl2:=hst.l2
   have hTv:=hT.1
   have hTa:=hT.2
   have hSt:=sP h10 hsl
   rw [<- hx] at hSt
   obtain ⟨s2,hs2e⟩:∃ y,y=lP h m st x:=⟨_,rfl⟩
   have hs2:StOk p.vars.toNat s2:=hs2e ▸ xF hst hb hT
   rw [<- hs2e] at hSt
   have hs2n:¬ 0<=x.term.var->s2=st:=λhn=>by rw [hs2e];unfold lP kJ;rw [if_neg (by simp [hn])]
   have vlt:0<=x.term.var->x.term.var.toNat<st.2.length:=λhn=>by omega
   obtain ⟨kb,hkb⟩:=cF (st.2[x.term.var.toNat]?.getD false)
   have hcase:0<=x.term.var\/(¬ 0<=x.term.var/\st.2[x.term.var.toNat]?=none)\/(¬ 0<=x.term.var/\st.2[x.term.var.toNat]?=some kb):=by
    by_cases hsp:0<=x.term.var
    .exact .inl hsp
    .right
     cases ho:st.2[x.term.var.toNat]? with
     | none=>exact .inl ⟨hsp,rfl⟩
     | some b=>rw [ho] at hkb;exact .inr ⟨hsp,by rw [hkb];rfl⟩
   rcases hcase with hc|hc|hc
   .have Y:=wa Y (wa h10 (wa (aA h10) (wa (Eq.symm hx) (wa (aA hn2) (wa (aA hk2) (wa (aA ha2) (wa (Eq.symm hV) (wa @Slot.c.eq_1 (wa @cL.eq_1 (wa hl1 (wa hl2 (wa @j5 (wa @cB.eq_1 (wa hc ((aA (vlt hc)))))))))))))))))
    refine wv (h:=?_)
    repeat first|intro _|refine ⟨eQ,?_⟩
    refine wq (λh14=>?_) λh14=>?_
    .have hF:kJ st x=true:=by simp only [kJ,aR,decide_eq_true_eq,c9];exact ⟨hc,by simpa [aA (vlt hc)] using h14⟩
     unfold lP at hs2e
     rw [if_pos hF] at hs2e
     have hvl:x.term.var.toNat<st.1.length:=aD
     have e1:s2.1.map cI=(st.1.map cI).set x.term.var.toNat (cI (lH h m x - x.term.add)):=by rw [hs2e,bX]
     have e2:s2.2.map cB=(st.2.map cB).set x.term.var.toNat (cB true):=by rw [hs2e,bX]
     have ecl:D.clLL ((st.1.map cI).set x.term.var.toNat [D.int .i64 (lH h m x - x.term.add)])=true:=by have:=pZ s2.1;rw [e1] at this;exact this
     have Y:=wa Y (wa e1 (wa e2 (wa @dLI.eq_1 (wa @cI.eq_1 (wa (aA hvl) ecl)))))
     refine wp (h:=dW (jM x.term s2.1 (by rw [hs2.l1];exact hT) hs2.big) wr wl rfl ?_)
     refine wv (h:=?_)
     repeat first|intro _|refine ⟨eQ,?_⟩
     refine wq (λh17=>?_) λh17=>?_
     .have hR:=eG (hSt.2 (by first|simpa using h17|simpa [hs2n hc.1] using h17|simpa [hs2e] using h17))
      exact wv (h:=hQ _ _ (by simp [go_sem,hR]))
     .have hstep:=hSt.1 (by first|simpa using h17|simpa [hs2n hc.1] using h17|simpa [hs2e] using h17)
      exact wp (h:=wx hI2 (i+1) ⟨s2,wg,(by simp [go_sem,Y]),wn,(by simp [go_sem,Y]),wn,wj,(by exact hs2),(by exact hstep)⟩)
    .have hF:¬ kJ st x=true:=by simp only [kJ,aR,decide_eq_true_eq,c9];rintro ⟨_,hk⟩;simp [aA (vlt hc)] at hk;simp [hk] at h14
     unfold lP at hs2e
     rw [if_neg hF] at hs2e
     have Y:=wa Y hs2e
     refine wv (h:=dW ((by first|exact jM x.term s2.1 (by rw [hs2.l1];exact hT) hs2.big|exact jM p.tests[k].left st.1 (by rw [hst.l1];exact hX.2.1) hst.big)) wr wl rfl ?_)
     refine dP (λh17=>?_) λh17=>?_
     .have hR:=eG (hSt.2 (by first|simpa using h17|simpa [hs2n hc.1] using h17|simpa [hs2e] using h17))
      exact wv (h:=hQ _ _ (by simp [go_sem,hR]))
     .have hstep:=hSt.1 (by first|simpa using h17|simpa [hs2n hc.1] using h17|simpa [hs2e] using h17)
      exact wp (h:=wx hI2 (i+1) ⟨s2,wg,(by simp [go_sem,Y]),wn,(by simp [go_sem,Y]),wn,wj,(by exact hs2),(by exact hstep)⟩)
   .have Y:=wa Y (wa h10 (wa (aA h10) (wa (Eq.symm hx) (wa (aA hn2) (wa (aA hk2) (wa (aA ha2) (wa (Eq.symm hV) (wa @Slot.c.eq_1 (wa @cL.eq_1 (wa hl1 (wa hl2 (wa @j5 (wa @cB.eq_1 (wa hc.1 (wa hc.2 (hs2n hc.1))))))))))))))))
    refine wp (h:=dW (jM x.term s2.1 (by rw [hs2.l1];exact hT) hs2.big) wr wl rfl ?_)
    refine wv (h:=?_)
    repeat first|intro _|refine ⟨eQ,?_⟩
    refine wq (λh17=>?_) λh17=>?_
    .have hR:=eG (hSt.2 (by first|simpa using h17|simpa [hs2n hc.1] using h17|simpa [hs2e] using h17))
     exact wv (h:=hQ _ _ (by simp [go_sem,hR]))
    .have hstep:=hSt.1 (by first|simpa using h17|simpa [hs2n hc.1] using h17|simpa [hs2e] using h17)
     exact wp (h:=wx hI2 (i+1) ⟨s2,wg,(by simp [go_sem,Y]),wn,(by simp [go_sem,Y]),wn,wj,(by exact hs2),(by exact hstep)⟩)
   .have Y:=wa Y (wa h10 (wa (aA h10) (wa (Eq.symm hx) (wa (aA hn2) (wa (aA hk2) (wa (aA ha2) (wa (Eq.symm hV) (wa @Slot.c.eq_1 (wa @cL.eq_1 (wa hl1 (wa hl2 (wa @j5 (wa @cB.eq_1 (wa hc.1 (wa hc.2 (hs2n hc.1))))))))))))))))
    refine wp (h:=dW (jM x.term s2.1 (by rw [hs2.l1];exact hT) hs2.big) wr wl rfl ?_)
    refine wv (h:=?_)
    repeat first|intro _|refine ⟨eQ,?_⟩
    refine wq (λh17=>?_) λh17=>?_
    .have hR:=eG (hSt.2 (by first|simpa using h17|simpa [hs2n hc.1] using h17|simpa [hs2e] using h17))
     exact wv (h:=hQ _ _ (by simp [go_sem,hR]))
    .have hstep:=hSt.1 (by first|simpa using h17|simpa [hs2n hc.1] using h17|simpa [hs2e] using h17)
     exact wp (h:=wx hI2 (i+1) ⟨s2,wg,(by simp [go_sem,Y]),wn,(by simp [go_sem,Y]),wn,wj,(by exact hs2),(by exact hstep)⟩)
  .rw [aH aD] at hsl
   have hR0:=oH hsl
   have hl1:=hst.l1
   have Y:=wa Y hl1
   refine wv (h:=bF (λk e H=>(e 4=.adr p.c/\e 5=.adr h.c/\e 6=.adr m.c/\e 3=dLI vs/\e 10=.own 0 p.vars.toNat/\e 18=dI k)/\(H.get 0=some ⟨3,1,st.1.map cI,false⟩)/\(0<H.next)/\(k<=p.tests.length)/\((p.tests.take k).all (λx=>zK x st.1)=true)) (λk=>p.tests.length - k) 0 ⟨wg,wn,wn,wi,(by rfl)⟩ λI4 hI4 k e H hi4=>?_)
   obtain ⟨E4,g0_4,n0_4,hk,hall⟩:=hi4
   have Y:=wa Y (wa E4 (wa g0_4 (cD n0_4)))
   refine wv (h:=?_)
   repeat first|intro _|refine ⟨eQ,?_⟩
   refine wq (λh20=>?_) λh20=>?_
   .have hX:=hO.test _ (aC h20)
    have hTn:=Rg (vs:=st.1) hX
    have Y:=wa Y (wa h20 (wa (aA h20) @Test.c.eq_1))
    refine wp (h:=dW ((by first|exact jM x.term s2.1 (by rw [hs2.l1];exact hT) hs2.big|exact jM p.tests[k].left st.1 (by rw [hst.l1];exact hX.2.1) hst.big)) wr wl rfl ?_)
    refine wp (h:=dW (jM p.tests[k].right st.1 (by rw [hst.l1];exact hX.2.2) hst.big) wr wl rfl ?_)
    refine wv (h:=?_)
    repeat first|intro _|refine ⟨eQ,?_⟩
    refine wq (λh25=>?_) λh25=>?_
    .have hT0:zK p.tests[k] st.1=false:=by
      rw [hTn,Bool.not_eq_false']
      rcases h25 with ⟨a,b⟩|⟨a,b⟩
      .simp [a,b]
      .simp [a,b]
     have hR:fC p h m vs=([],16):=by
      rw [hR0,if_neg]
      intro ha
      rw [cO] at ha
      have:=ha _ (aC h20)
      rw [hT0] at this;cases this
     exact wv (h:=hQ _ _ (by simp [go_sem,hR]))
    .have hT1:zK p.tests[k] st.1=true:=by
      rw [hTn];simp
      exact ⟨by by_cases hk1:p.tests[k].kind=1;exact .inr (h25.1 hk1);exact .inl hk1,by by_cases hk2:p.tests[k].kind=2;exact .inr (h25.2 hk2);exact .inl hk2⟩
     exact wp (h:=wx hI4 (k+1) ⟨wg,wn,wn,wj,(by rw [aE h20,A0,hall];simp;exact hT1)⟩)
   .rw [aH aD] at hall
    rw [if_pos hall] at hR0
    exact wv (h:=hQ _ _ (by simp [go_sem,Y,hR0,dLI]))
/-! ### extensions -/
structure MatOk (t:Types) (p:Pattern) (h:Host) (m:Mat):Prop where
 mok:MOk t p.graph h.graph m.m
 vl:m.vars.length=p.vars.toNat
 vs:∀ v∈m.vars,-2000000<=v/\v<=2000000
structure ExOk (t:Types) (p:Pattern) (mp:Part) (q:Pattern):Prop where
 pq:PatOk t q
 pv:p.vars<=q.vars
 p0:0<=p.vars
 mo:eJ p.graph q.graph mp=0
theorem ExOk.img {t:Types}{p:Pattern}{mp:Part}{q:Pattern}(h:ExOk t p mp q):(mp.nodes.length=p.graph.nodes.length/\mp.edges.length=p.graph.edges.length)/\(∀ x∈mp.nodes,0<=x/\x<q.graph.nodes.length)/\(∀ x∈mp.edges,0<=x/\x<q.graph.edges.length):=by
 have:=nO h.mo
 exact ⟨this.2.2,(y3 h.mo).1,(y3 h.mo).2⟩
theorem Gt {t:Types}{p g:Graph}{q:Part}{inj:Bool}{m:Part}(h:m∈(mY t p g q inj).1):MOk t p g m:=by
 unfold mY at h
 split at h
 .cases h
 .split at h
  .cases h
  .split at h
   .cases h
   .split at h
    .cases h
    .unfold MK at h
     split at h
     .cases h
     .exact Sl (S:=⟨t,p,g,_,_,inj⟩) (dC h)
theorem Q9 {t:Types}{q:Pattern}{h:Host}{vars:List Int}{l:List Part}(hp:PatOk t q)(ho:HostOk t h)(hl:∀ x∈l,MOk t q.graph h.graph x)(hv:vars.length<=q.vars.toNat)(hs:∀ v∈vars,-2000000<=v/\v<=2000000):∀ m∈zT q h vars l,MatOk t q h m:=λm hm=>by
 unfold zT at hm
 rw [List.mem_filterMap] at hm
 obtain ⟨x,hx,he⟩:=hm
 split at he
 .rename_i h0
  cases he
  obtain ⟨h1,h2⟩:=Aq (Ue hp ho (hl x hx)) hv hs h0
  exact ⟨hl x hx,h1,h2⟩
 .cases he
theorem Pt {t:Types}{p:Pattern}{mp:Part}{q:Pattern}{h:Host}{m:Mat}{inj:Bool}(hE:ExOk t p mp q)(ho:HostOk t h)(hm:MatOk t p h m):∀ x∈(wX t mp q h m inj).1,MatOk t q h x:=by
 unfold wX
 split
 .simp
 .exact Q9 hE.pq ho (λx hx=>Gt hx) (by have:=hm.vl;have:=hE.pv;have:=hE.p0;omega) hm.vs
theorem CE (t:Types)(ht:t.ok)(p:Pattern)(c:Cond)(hE:ExOk t p c.map c.pattern)(h:Host)(ho:HostOk t h)(m:Mat)(hm:MatOk t p h m)(inj:Bool) :
  Pure Tryz.prog 341 [t.d,.agg c.c,h.d,m.d,.bool inj] (.tup [.list ((wX t c.map c.pattern h m inj).1.map Mat.c),dI (wX t c.map c.pattern h m inj).2]):=by
 obtain ⟨⟨hl1,hl2⟩,hi1,hi2⟩:=hE.img
 have hq:=bR hE.pq.gg
 have hn1:=hm.mok.len
 have hn2:=hm.mok.elen
 refine Tz.pK ⟨λt=>t==12||t==13||t==16,λr=>match r with|2=>[(0,23),(1,23),(2,23),(3,23),(4,23),(5,23),(6,23),(7,23),(8,23),(9,23),(10,23),(11,23),(12,23),(13,23),(14,23),(15,23),(16,23),(17,23),(18,23),(19,23),(20,23),(21,23)]|_=>[]⟩ Tryz.func341 rfl (λQ hQ=>?_)
 obtain ⟨X,hX⟩:=cF (mY t c.pattern.graph h.graph (oO c.map c.pattern m.m) inj)
 have hXm:∀ x∈X.1,MOk t c.pattern.graph h.graph x:=λx hx=>Gt (hX ▸ hx)
 have hX5:X.1.length<=5000:=hX ▸ Ps _ _ _ _ _
 have hvl:m.vars.length<=c.pattern.vars.toNat:=by have:=hm.vl;have:=hE.pv;have:=hE.p0;omega
 have hXE:wX t c.map c.pattern h m inj=if X.2≠0 then ([],X.2) else (zT c.pattern h m.vars X.1,0):=by unfold wX;rw [<- hX]
 have Y:=wa @Cond.c_eq (wa @Host.d.eq_1 (wa @Host.c.eq_1 (wa @Mat.d.eq_1 @Mat.c.eq_1)))
 refine wp (h:=aJ (Bp c.pattern.graph.nodes.length aD c.map.nodes m.m.nodes hi1 aD) wl ?_)
 refine wp (h:=aJ (Bp c.pattern.graph.edges.length aD c.map.edges m.m.edges hi2 aD) wl ?_)
 refine wp (h:=aB ((by have hq:=JX t ht c.pattern.graph h.graph (oO c.map c.pattern m.m) inj;rw [<- hX] at hq;unfold oO Types.d Types.c Graph.d Graph.c Part.d Part.c dLI at hq;exact hq)) wl ?_)
 refine sG (λh4=>?_) λh4=>?_
 .rw [if_pos h4] at hXE
  exact wv (h:=hQ _ _ (by simp [go_sem,hXE]))
 .rw [if_neg aD] at hXE
  refine wv (h:=bF (λi e H=>∃ ms:List Mat,(e 5=.adr t.c/\e 6=.adr c.c/\e 7=.adr h.c/\e 8=.adr m.c/\e 4=.bool inj/\e 12=.ptr 0 1 0 0/\e 14=.list (X.1.map Part.c)/\e 16=.own 26 ms.length/\e 17=dI i)/\(H.get 0=some ⟨33,5,[c.pattern.c],false⟩)/\(0<H.next)/\(H.get 26=some ⟨46,3,ms.map Mat.c,false⟩)/\(26<H.next)/\(i<=X.1.length)/\(ms=zT c.pattern h m.vars (X.1.take i))/\(ms.length<=i)) (λi=>X.1.length - i) 0 ⟨([]),wg,wn,wn,wn,wn,wi,(by rfl),(by simp)⟩ λI0 hI0 i e H hi0=>?_)
  obtain ⟨ms,E0,g0_0,n0_0,g26_0,n26_0,hi,hms,hml⟩:=hi0
  have Y:=wa Y (wa E0 (wa g0_0 (wa (cD n0_0) (wa g26_0 (cD n26_0)))))
  refine sG (λh8=>?_) λh8=>?_
  .obtain ⟨v,hv⟩:=cF (fC c.pattern h X.1[i] m.vars)
   obtain ⟨ms2,hms2⟩:∃ y,y=ms++if v.2=0 then [(⟨X.1[i],v.1⟩:Mat)] else []:=⟨_,rfl⟩
   have Y:=wa Y (wa h8 (wa (aA h8) (wa @Part.c.eq_1 @Pattern.c.eq_1)))
   refine wp (h:=aJ ((by have hq:=JU c.pattern h X.1[i] (Ue hE.pq ho (hXm _ (aC h8))) m.vars hvl hm.vs;rw [<- hv] at hq;unfold Pattern.d Pattern.c Host.d Host.c Part.d Part.c dLI at hq;exact hq)) wl ?_)
   refine sG (λh11=>?_) λh11=>?_
   .have hm3:ms2=ms++[⟨X.1[i],v.1⟩]:=by rw [hms2,if_pos (bW h11)]
    have Y:=wa Y hm3
    exact wp (h:=wx hI0 (i+1) ⟨ms2,wg,wn,wn,wn,wn,wj,(by rw [aE h8,u9,<- hms,<- hv];exact hms2),(by rw [hms2];split<;>simp<;>omega)⟩)
   .have hm3:ms2=ms:=by rw [hms2,if_neg (bW h11),dG]
    have Y:=wa Y hm3
    exact wp (h:=wx hI0 (i+1) ⟨ms2,wg,wn,wn,wn,wn,wj,(by rw [aE h8,u9,<- hms,<- hv];exact hms2),(by rw [hms2];split<;>simp<;>omega)⟩)
  .rw [aH aD] at hms
   exact wv (h:=hQ _ _ (by simp [go_sem,Y,hXE,<- hms]))
theorem Mp (l:List Cond):l.length<=Cond.sizes l:=by
 induction l with
 | nil=>simp [Cond.sizes]
 | cons a l ih=>have:=vF a;simp only [Cond.sizes,fI];omega
structure CondV (t:Types) (p:Pattern) (c:Cond):Prop where
 wf:KQ c=true
 ins:qD t p c=0
 sz:c.size<=1000000
theorem CondV.kinds {t:Types}{p:Pattern}{c:Cond}(h:CondV t p c):(c.kind=2\/c.kind=5->c.kids.length=1)/\(1<=c.kind/\c.kind<=5):=by
 have:=h.wf
 rw [tG,aR] at this
 have h1:=this.1
 unfold qU at h1
 split at h1
 .omega
 .split at h1
  .rw [aR,decide_eq_true_eq] at h1;omega
  .split at h1
   .omega
   .rw [aR,decide_eq_true_eq,decide_eq_true_eq] at h1;omega
theorem CondV.ex {t:Types}{p:Pattern}{c:Cond}(h:CondV t p c)(h5:c.kind=5)(hp:PatOk t p):ExOk t p c.map c.pattern/\∀ k∈c.kids,CondV t c.pattern k:=by
 have hi:=h.ins
 have hw:=h.wf
 rw [EF,if_pos h5,if_pos h5] at hi
 rw [tG,aR,cO] at hw
 by_cases h0:jQ t p c.map c.pattern=0
 .rw [if_neg aD] at hi
  refine ⟨?_,λk hk=>⟨hw.2 k hk,pH hi k hk,by have:=vF c;have:=A9 hk;have:=h.sz;omega⟩⟩
  unfold jQ at h0
  split at h0
  .cases h0
  .rename_i h1
   split at h0
   .exact absurd h0 (by assumption)
   .rename_i h2
    split at h0
    .exact absurd h0 (by assumption)
    .rename_i h3
     rw [jS] at h2 h3
     refine ⟨L2 ?_,aD,hp.vars.1,h3⟩
     unfold nP at h2
     split at h2
     .exact .inr h2
     .rename_i h4;left;omega
 .rw [if_pos h0] at hi;exact absurd hi h0
theorem CondV.kid {t:Types}{p:Pattern}{c:Cond}(h:CondV t p c)(h5:c.kind≠5):∀ k∈c.kids,CondV t p k:=by
 have hi:=h.ins
 have hw:=h.wf
 rw [EF,if_neg h5,if_neg h5,if_neg aD] at hi
 rw [tG,aR,cO] at hw
 exact λk hk=>⟨hw.2 k hk,pH hi k hk,by have:=vF c;have:=A9 hk;have:=h.sz;omega⟩
theorem uW {α β:Type}(f:α->β){l:List α}{i:Nat}(h:i<l.length):(l.drop i).map f=f l[i] :: (l.drop (i+1)).map f:=by rw [eF h,g6]
theorem y5 {t:Types}{h:Host}{inj:Bool}{l:List Cond}(hl:0<l.length):Mv (l.map (oB t h inj))=oB t h inj l[0]:=by
 cases l with
 | nil=>cases hl
 | cons a l=>rfl
theorem A1 (t:Types)(h:Host)(inj:Bool)(c:Cond)(m:Mat):∃ wc wm wk we,oB t h inj c m=(Prf.mk wc wm wk,we):=by
 cases hh:oB t h inj c m with
 | mk a b=>cases a;exact ⟨_,_,_,_,rfl⟩
theorem LB (t:Types)(ht:t.ok)(h:Host)(ho:HostOk t h)(inj:Bool):∀ (c:Cond) (p:Pattern),CondV t p c->PatOk t p->∀ m:Mat,MatOk t p h m ->
  Pure Tryz.prog 255 [t.d,.agg c.c,h.d,m.d,.bool inj] (.tup [.agg (oB t h inj c m).1.c,dI (oB t h inj c m).2]):=by
 refine i9 λc ih p hC hp m hm=>?_
 obtain ⟨hK1,hK2⟩:=hC.kinds
 have hkl0:c.kids.length<=1000000:=by have:=Mp c.kids;have:=vF c;have:=hC.sz;omega
 have hW:=Jm t h inj c m
 obtain ⟨W,hWW⟩:=cF (oB t h inj c m)
 rw [<- hWW] at hW ⊢
 refine tK (by first|rfl|(simp [go_sem];done)) (λQ hQ=>(aI (cfg:=⟨λt=>t==10||t==12||t==14||t==16||t==19||t==24,λr=>match r with|3=>[(0,12),(1,12),(2,12),(3,12),(4,12),(5,12),(6,12),(8,12)]|14=>[(0,13),(1,13),(2,13),(4,13),(5,13),(6,13),(7,13),(9,13)]|23=>[(0,13),(1,13),(2,13),(4,13),(5,13),(6,13),(7,13),(9,13)]|34=>[(0,15),(1,15),(2,15),(3,15),(4,15),(5,15),(8,15),(9,15),(11,15)]|36=>[(2,5),(3,5)]|_=>[]⟩) Tz.mixed Tryz.func255 rfl rfl (aF rfl) (by kernel_rfl) ?_))
 have Y:=wa @Cond.c_eq (wa @Host.d.eq_1 (wa @Host.c.eq_1 (wa @Mat.d.eq_1 (wa @Mat.c.eq_1 @Prf.c_eq))))
 refine dP (λh2=>?_) λh2=>?_
 .have h2':c.kind=2:=by simpa using h2
  have hl:0<c.kids.length:=by have:=hK1 (.inl h2');omega
  obtain ⟨k0,hk0e⟩:∃ k,k=c.kids[0]:=⟨_,rfl⟩
  have hk0:k0∈c.kids:=hk0e ▸ aC hl
  have hC0:=hC.kid aD k0 hk0
  obtain ⟨wc,wm,wk,we,hw⟩:=A1 t h inj k0 m
  rw [if_pos h2',y5 hl,<- hk0e,hw] at hW
  unfold S1 at hW
  have Y:=wa Y (wa (aA hl) (wa (Eq.symm hk0e) h2'))
  refine wp (h:=aJ ((by have hq:=ih k0 hk0 p hC0 hp m hm;simp only [hw,Prf.c_eq,Cond.c_eq] at hq;unfold Types.d Types.c Host.d Host.c Mat.d Mat.c dLI dI at hq;exact hq)) wl ?_)
  refine wv (h:=?_)
  repeat first|intro _|refine ⟨eQ,?_⟩
  refine wq (λh4=>?_) λh4=>?_
  .rw [if_pos (bW h4)] at hW
   refine wv (h:=?_)
   exact hQ _ _ (by simp [go_sem,Y,hW,jN,g8,Prf.c_eq,lU,i6,eR,dLI,eI,fZ])
  .rw [if_neg (bW h4)] at hW
   refine dP (λh6=>?_) λh6=>?_
   .rw [if_pos (bW h6)] at hW
    refine wv (h:=?_)
    exact hQ _ _ (by simp [go_sem,Y,hW,jN,g8,Prf.c_eq,lU,i6,eR,dLI,eI,fZ])
   .rw [if_neg (bW h6)] at hW
    refine wv (h:=?_)
    exact hQ _ _ (by simp [go_sem,Y,hW,jN,g8,Prf.c_eq,lU,i6,eR,dLI,eI,fZ])
 .have h2':c.kind≠2:=by simpa using h2
  rw [if_neg h2'] at hW
  refine dP (λh9=>?_) λh9=>?_
  .have h9':c.kind=3:=by simpa using h9
   have hCk:=hC.kid aD
   rw [if_pos h9'] at hW
   have Y:=wa Y h9'
   refine wv (h:=tN (Ghosts.step (Ghosts.refl _) 1 0 4 282 5 _ _ ((by simp [go_sem];rfl)) rfl rfl rfl) (λi e H=>∃ ps:List Prf,(e 5=.adr t.c/\e 6=.adr c.c/\e 7=.adr h.c/\e 8=.adr m.c/\e 4=.bool inj/\e 10=.ptr 0 1 0 0/\e 14=.ptr 1 1 0 0/\e 15=dI i)/\(H.get 0=some ⟨282,5,[[dI 0,.nil,.nil,.nil,.nil]],false⟩)/\(0<H.next)/\(H.get 1=some ⟨282,5,[[dI 0,.nil,.nil,.nil,.own 2 ps.length]],false⟩)/\(1<H.next)/\(H.get 2=some ⟨282,5,ps.map Prf.c,false⟩)/\(2<H.next)/\(i<=c.kids.length)/\(Kz ((c.kids.drop i).map λk=>oB t h inj k m) ps=W)/\(ps.length<=i)/\(c.kids.length<=1000000)) (λi=>c.kids.length - i) 0 ⟨([]),wg,wn,wn,wn,wn,wn,wn,wi,(by exact hW.symm),bV,(by exact hkl0)⟩ λI1 hI1 i e H hi1=>?_)
   obtain ⟨ps,E1,g0_1,n0_1,g1_1,n1_1,g2_1,n2_1,hi,hA,hpl,hkl⟩:=hi1
   have Y:=wa Y (wa E1 (wa g0_1 (wa (cD n0_1) (wa g1_1 (wa (cD n1_1) (wa g2_1 (cD n2_1)))))))
   refine wv (h:=?_)
   repeat first|intro _|refine ⟨eQ,?_⟩
   refine wq (λh12=>?_) λh12=>?_
   .obtain ⟨k1,hk1e⟩:∃ k,k=c.kids[i]:=⟨_,rfl⟩
    have hk1:k1∈c.kids:=hk1e ▸ aC h12
    obtain ⟨wc,wm,wk,we,hw⟩:=A1 t h inj k1 m
    have hst:=hA
    rw [uW _ h12,<- hk1e,hw] at hst
    simp only [Kz] at hst
    have Y:=wa Y (wa h12 (wa (aA h12) (Eq.symm hk1e)))
    refine wp (h:=aJ ((by have hq:=ih k1 hk1 p (hCk k1 hk1) hp m hm;simp only [hw,Prf.c_eq,Cond.c_eq] at hq;unfold Types.d Types.c Host.d Host.c Mat.d Mat.c dLI dI at hq;exact hq)) wl ?_)
    refine wv (h:=?_)
    repeat first|intro _|refine ⟨eQ,?_⟩
    refine wq (λh15=>?_) λh15=>?_
    .rw [if_pos (bW h15)] at hst
     refine wv (h:=?_)
     exact hQ _ _ (by simp [go_sem,Y,<- hst,jN,g8,Prf.c_eq,lU,i6,eR,dLI,eI,fZ])
    .rw [if_neg (bW h15)] at hst
     exact wp (h:=wx hI1 (i+1) ⟨(ps++[.mk wc wm wk]),wg,wn,wn,wn,wn,wn,wn,wj,(by exact hst),(by simp;omega),(by exact hkl)⟩)
   .rw [jL aD] at hA
    simp only [jD,Kz] at hA
    refine wv (h:=?_)
    exact hQ _ _ (by simp [go_sem,Y,<- hA,jN,g8,Prf.c_eq,lU,i6,eR,dLI,eI,fZ])
  .have h9':c.kind≠3:=by simpa using h9
   rw [if_neg h9'] at hW
   refine dP (λh19=>?_) λh19=>?_
   .have h19':c.kind=4:=by simpa using h19
    have hCk:=hC.kid aD
    rw [if_pos h19'] at hW
    have Y:=wa Y h19'
    refine wv (h:=bF (λi e H=>(e 5=.adr t.c/\e 6=.adr c.c/\e 7=.adr h.c/\e 8=.adr m.c/\e 4=.bool inj/\e 10=.ptr 0 1 0 0/\e 18=dI i)/\(H.get 0=some ⟨282,5,[[dI 0,.nil,.nil,.nil,.nil]],false⟩)/\(0<H.next)/\(i<=c.kids.length)/\(SU ((c.kids.drop i).map λk=>oB t h inj k m) i=W)) (λi=>c.kids.length - i) 0 ⟨wg,wn,wn,wi,(by exact hW.symm)⟩ λI3 hI3 i e H hi3=>?_)
    obtain ⟨E3,g0_3,n0_3,hi,hA⟩:=hi3
    have Y:=wa Y (wa E3 (wa g0_3 (cD n0_3)))
    refine wv (h:=?_)
    repeat first|intro _|refine ⟨eQ,?_⟩
    refine wq (λh21=>?_) λh21=>?_
    .obtain ⟨k1,hk1e⟩:∃ k,k=c.kids[i]:=⟨_,rfl⟩
     have hk1:k1∈c.kids:=hk1e ▸ aC h21
     obtain ⟨wc,wm,wk,we,hw⟩:=A1 t h inj k1 m
     have hst:=hA
     rw [uW _ h21,<- hk1e,hw] at hst
     simp only [SU] at hst
     have Y:=wa Y (wa h21 (wa (aA h21) (Eq.symm hk1e)))
     refine wp (h:=aJ ((by have hq:=ih k1 hk1 p (hCk k1 hk1) hp m hm;simp only [hw,Prf.c_eq,Cond.c_eq] at hq;unfold Types.d Types.c Host.d Host.c Mat.d Mat.c dLI dI at hq;exact hq)) wl ?_)
     refine wv (h:=?_)
     repeat first|intro _|refine ⟨eQ,?_⟩
     refine wq (λh24=>?_) λh24=>?_
     .rw [if_pos (bW h24)] at hst
      refine wv (h:=?_)
      exact hQ _ _ (by simp [go_sem,Y,<- hst,jN,g8,Prf.c_eq,lU,i6,eR,dLI,eI,fZ])
     .rw [if_neg (bW h24)] at hst
      exact wp (h:=wx hI3 (i+1) ⟨wg,wn,wn,wj,(by exact hst)⟩)
    .rw [jL aD] at hA
     simp only [jD,SU] at hA
     refine wv (h:=?_)
     exact hQ _ _ (by simp [go_sem,Y,<- hA,jN,g8,Prf.c_eq,lU,i6,eR,dLI,eI,fZ])
   .have h19':c.kind≠4:=by simpa using h19
    rw [if_neg h19'] at hW
    refine dP (λh27=>?_) λh27=>?_
    .have h27':c.kind=5:=by simpa using h27
     obtain ⟨hE,hCk⟩:=hC.ex h27' hp
     have hl:0<c.kids.length:=by have:=hK1 (.inr h27');omega
     obtain ⟨k0,hk0e⟩:∃ k,k=c.kids[0]:=⟨_,rfl⟩
     have hk0:k0∈c.kids:=hk0e ▸ aC hl
     obtain ⟨X,hX⟩:=cF (wX t c.map c.pattern h m inj)
     have hXm:∀ x∈X.1,MatOk t c.pattern h x:=hX ▸ Pt hE ho hm
     rw [if_pos h27',y5 hl,<- hk0e,<- hX] at hW
     have Y:=wa Y (wa (aA hl) (wa (Eq.symm hk0e) h27'))
     refine wv (h:=aB ((by have hq:=CE t ht p c hE h ho m hm inj;rw [<- hX,Cond.c_eq,h27'] at hq;unfold Types.d Types.c Host.d Host.c Mat.d Mat.c dLI dI at hq;exact hq)) wl ?_)
     refine dP (λh29=>?_) λh29=>?_
     .rw [if_pos (bW h29)] at hW
      refine wv (h:=?_)
      exact hQ _ _ (by simp [go_sem,Y,hW,jN,g8,Prf.c_eq,lU,i6,eR,dLI,eI,fZ])
     .rw [if_neg (bW h29)] at hW
      refine wv (h:=bF (λi e H=>(e 5=.adr t.c/\e 6=.adr c.c/\e 7=.adr h.c/\e 8=.adr m.c/\e 4=.bool inj/\e 10=.ptr 0 1 0 0/\e 21=.list (X.1.map Mat.c)/\e 23=dI i)/\(H.get 0=some ⟨282,5,[[dI 0,.nil,.nil,.nil,.nil]],false⟩)/\(0<H.next)/\(i<=X.1.length)/\(Tg ((X.1.drop i).map λx=>(x,oB t h inj k0 x))=W)) (λi=>X.1.length - i) 0 ⟨wg,wn,wn,wi,(by exact hW.symm)⟩ λI5 hI5 i e H hi5=>?_)
      obtain ⟨E5,g0_5,n0_5,hi,hA⟩:=hi5
      have Y:=wa Y (wa E5 (wa g0_5 (cD n0_5)))
      refine wv (h:=?_)
      repeat first|intro _|refine ⟨eQ,?_⟩
      refine wq (λh32=>?_) λh32=>?_
      .obtain ⟨wc,wm,wk,we,hw⟩:=A1 t h inj k0 X.1[i]
       have hst:=hA
       rw [uW _ h32,hw] at hst
       simp only [Tg] at hst
       have Y:=wa Y (wa h32 (aA h32))
       refine wp (h:=aJ ((by have hq:=ih k0 hk0 c.pattern (hCk k0 hk0) hE.pq X.1[i] (hXm _ (aC h32));simp only [hw,Prf.c_eq,Cond.c_eq] at hq;unfold Types.d Types.c Host.d Host.c Mat.d Mat.c dLI dI at hq;exact hq)) wl ?_)
       refine wv (h:=?_)
       repeat first|intro _|refine ⟨eQ,?_⟩
       refine wq (λh35=>?_) λh35=>?_
       .rw [if_pos (bW h35)] at hst
        refine wp (h:=?_)
        exact hQ _ _ (by simp [go_sem,Y,<- hst,jN,g8,Prf.c_eq,lU,i6,eR,dLI,eI,fZ])
       .rw [if_neg (bW h35)] at hst
        exact wp (h:=wx hI5 (i+1) ⟨wg,wn,wn,wj,(by exact hst)⟩)
      .rw [jL aD] at hA
       simp only [jD,Tg] at hA
       refine wv (h:=?_)
       exact hQ _ _ (by simp [go_sem,Y,<- hA,jN,g8,Prf.c_eq,lU,i6,eR,dLI,eI,fZ])
    .have h27':c.kind≠5:=by simpa using h27
     rw [if_neg h27'] at hW
     refine wv (h:=?_)
     exact hQ _ _ (by simp [go_sem,Y,hW,jN,g8,Prf.c_eq,lU,i6,eR,dLI,eI,fZ])
theorem LF (t:Types)(ht:t.ok)(h:Host)(ho:HostOk t h)(inj:Bool)(c:Cond)(p:Pattern)(hC:CondV t p c)(hp:PatOk t p)(m:Mat)(hm:MatOk t p h m) :
  Pure Tryz.prog 152 [t.d,.agg c.c,h.d,m.d,.bool inj] (.tup [.bool (nE t h inj c m).1,dI (nE t h inj c m).2]):=by
 have hq:=LB t ht h ho inj c p hC hp m hm
 rw [Cond.c_eq] at hq
 obtain ⟨wc,wm,wk,we,hw⟩:=A1 t h inj c m
 have hH:nE t h inj c m=if we=10 then (false,0) else (decide (we=0),we):=by unfold nE Rb;rw [hw]
 simp only [hw,Prf.c_eq] at hq
 refine Tz.pK ⟨λt=>t==12,λ_=>[]⟩ Tryz.func152 rfl (λQ hQ=>?_)
 have Y:=wa @Cond.c_eq (wa @Host.d.eq_1 (wa @Host.c.eq_1 (wa @Mat.d.eq_1 (wa @Mat.c.eq_1 @Prf.c_eq))))
 refine wv (h:=aB ((by have hq:=hq;unfold Types.d Types.c Host.d Host.c Mat.d Mat.c dLI dI at hq;exact hq)) wl ?_)
 refine dP (λh2=>?_) λh2=>?_
 .rw [if_pos (bW h2)] at hH
  exact wv (h:=hQ _ _ (by simp [go_sem,hH]))
 .rw [if_neg (bW h2)] at hH
  exact wv (h:=hQ _ _ (by simp [go_sem,hH,BN]))
end Go.Abs
end
