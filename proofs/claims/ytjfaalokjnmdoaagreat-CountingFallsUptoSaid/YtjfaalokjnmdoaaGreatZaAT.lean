/- Hosts: what a valid one is; a host that lies in owned slices -/
import Derived.Test.YtjfaalokjnmdoaaGreatZaAF
import Derived.Test.YtjfaalokjnmdoaaGreatZaAA
import Derived.Test.YtjfaalokjnmdoaaGreatZaAS
set_option linter.unusedVariables false
set_option linter.unusedSimpArgs false
section
set_option maxRecDepth 100000
set_option maxHeartbeats 4000000
open Go Go.Proofs
namespace Go.Abs
theorem p6 {t:Types}(hv:(cW t).2=0){a:Int}(h0:0≤a)(h1:a<t.nodes.length):b7 t a=t.attrs a.toNat:=by
 unfold b7;rw [if_pos];simp [given2F,hv,insideF,h0,h1]
theorem Gn {t:Types}(hv:(cW t).2=0)(a:Int):(b7 t a).length≤8:=by
 by_cases h:0≤a∧a<t.nodes.length
 ·rw [p6 hv h.1 h.2];exact (fF hv).attrs _ (by omega)
 ·unfold b7;rw [if_neg (by simp [given2F,hv,insideF];omega)];simp
theorem Bz {t:Types}(hv:(cW t).2=0)(a:Int):∀ x∈b7 t a,SmallA x:=by
 by_cases h:0≤a∧a<t.nodes.length
 ·rw [p6 hv h.1 h.2];exact MS hv _ (by omega)
 ·unfold b7;rw [if_neg (by simp [given2F,hv,insideF];omega)];simp
structure HostOk (t:Types) (h:Host):Prop where
 vf:(cW t).2=0
 gg:graphF h.graph=0
 vl:h.values.length=h.graph.nodes.length
 nd:∀ (i:Nat) (hi:i<h.graph.nodes.length) (hv:i<h.values.length),jX t h.graph.nodes[i] h.values[i]=0
 ed:∀ x∈h.graph.edges,x.type<t.edges.length∧l9 t x.type (gN h.graph x.from_) (gN h.graph x.to_)=true
theorem Ck {t:Types}{h:Host}(h0:lH t h=0):HostOk t h:=by
 unfold lH vM at h0
 split at h0
 ·rename_i h1;exact absurd h0 h1
 ·rename_i h1
  split at h0
  ·rename_i h2;exact absurd h0 h2
  ·rename_i h2
   split at h0
   ·cases h0
   ·rename_i h3
    split at h0
    ·rename_i h4;exact absurd h0 h4
    ·rename_i h4
     rw [fV] at h4
     rw [sC] at h4 h0
     refine ⟨by omega,by omega,by omega,fun i hi hv=>?_,fun x hx=>?_⟩
     ·have:=fI _ _ h4 i (dY _) (by omega)
      simpa only [Ok,aA hi,aA hv,aD] using this
     ·obtain ⟨k,hk,rfl⟩:=aT hx
      have:=fI _ _ h0 k (dY _) (by omega)
      simp only [T8,aA hk,aD] at this
      split at this
      ·cases this
      ·split at this
       ·exact ⟨by omega,by assumption⟩
       ·cases this
theorem tX {t:Types}{k:Int}{vs:List Int}(h:jX t k vs=0):k<t.nodes.length∧nB t k.toNat=false∧vs.length=(b7 t k).length ∧
  ∀ (j:Nat) (hj:j<vs.length) (ha:j<(b7 t k).length),(b7 t k)[j].low≤vs[j]∧vs[j]≤(b7 t k)[j].high:=by
 unfold jX at h
 split at h
 ·cases h
 ·rename_i h1
  split at h
  ·cases h
  ·rename_i h2
   split at h
   ·cases h
   ·rename_i h3
    refine ⟨by omega,by simpa using h2,by omega,fun j hj ha=>?_⟩
    have:=fI _ _ h j (dY _) (by omega)
    simp only [JV,aA hj,aA ha,aD] at this
    split at this
    ·cases this
    ·omega
theorem HostOk.row {t:Types}{h:Host}(ho:HostOk t h):∀ v∈h.values,v.length≤8∧∀ x∈v,-1000000≤x∧x≤1000000:=fun v hv=>by
 obtain ⟨i,hi,rfl⟩:=aT hv
 have hn:=ho.vl
 obtain ⟨h1,h2,h3,h4⟩:=tX (ho.nd i (by omega) hi)
 have hl:=Gn ho.vf (h.graph.nodes[i]'(by omega))
 refine ⟨by omega,fun x hx=>?_⟩
 obtain ⟨j,hj,rfl⟩:=aT hx
 have:=h4 j hj (by omega)
 have hs:=Bz ho.vf _ _ (aB (show j<(b7 t (h.graph.nodes[i]'(by omega))).length by omega))
 have:=hs.lo;have:=hs.hi
 omega
/-! ### a host in owned slices -/
def lL (qs:List Nat)(vs:List (List Int)):List (List D):=List.zipWith (fun q (v:List Int)=>[D.own q v.length]) qs vs
theorem nU {qs:List Nat}{vs:List (List Int)}(h:qs.length=vs.length):(lL qs vs).length=vs.length:=by simp [lL,h]
theorem EG {qs:List Nat}{vs:List (List Int)}(h:qs.length=vs.length)(q:Nat)(v:List Int):lL (qs++[q]) (vs++[v])=lL qs vs++[[.own q v.length]]:=by
 simp [lL,List.zipWith_append h]
theorem yB {qs:List Nat}{vs:List (List Int)}{i q:Nat}{v:List Int}(h1:qs[i]?=some q)(h2:vs[i]?=some v):(lL qs vs)[i]?=some [.own q v.length]:=by
 simp [lL,List.getElem?_zipWith,h1,h2]
theorem P3 {qs:List Nat}{vs:List (List Int)}{i:Nat}{v v':List Int}(h2:vs[i]?=some v)(hl:v'.length=v.length):lL qs (vs.set i v')=lL qs vs:=by
 apply eK
 intro j
 simp only [lL,List.getElem?_zipWith,c6]
 by_cases h:i=j
 ·subst h
  have hi:=(aO.1 h2).1
  rw [if_pos rfl,if_pos hi,h2]
  cases qs[i]?<;>simp [hl]
 ·rw [if_neg h]
structure HH (H:AHeap) (lo a b V:Nat) (qs:List Nat) (h:Host):Prop where
 ga:H.get a=some ⟨3,1,h.graph.nodes.map cI,false⟩
 gb:H.get b=some ⟨101,3,h.graph.edges.map Edge.c,false⟩
 gV:H.get V=some ⟨34,1,lL qs h.values,false⟩
 len:qs.length=h.values.length
 gq:∀ (i q:Nat) (v:List Int),qs[i]?=some q→h.values[i]?=some v→H.get q=some ⟨3,1,v.map cI,false⟩
 nd:(a :: b :: V :: qs).Nodup
 rng:∀ q∈a :: b :: V :: qs,lo≤q∧q<H.next
section
variable {H H':AHeap} {lo a b V:Nat} {qs:List Nat} {x:Host}
theorem HH.a_in (h:HH H lo a b V qs x):a∈a :: b :: V :: qs:=by simp
theorem HH.b_in (h:HH H lo a b V qs x):b∈a :: b :: V :: qs:=by simp
theorem HH.V_in (h:HH H lo a b V qs x):V∈a :: b :: V :: qs:=by simp
theorem HH.q_in (h:HH H lo a b V qs x){q:Nat}(hq:q∈qs):q∈a :: b :: V :: qs:=by simp [hq]
theorem HH.ab (h:HH H lo a b V qs x):a≠b∧a≠V∧b≠V:=by
 have:=h.nd;simp only [eE,bB,not_or] at this
 exact ⟨this.1.1,this.1.2.1,this.2.1.1⟩
theorem HH.qn (h:HH H lo a b V qs x){q:Nat}(hq:q∈qs):q≠a∧q≠b∧q≠V:=by
 have:=h.nd;simp only [eE,bB,not_or] at this
 exact ⟨fun e=>this.1.2.2 (e ▸ hq),fun e=>this.2.1.2 (e ▸ hq),fun e=>this.2.2.1 (e ▸ hq)⟩
theorem HH.lower (h:HH H lo a b V qs x){lo':Nat}(hl:lo'≤lo):HH H lo' a b V qs x:=⟨h.ga,h.gb,h.gV,h.len,h.gq,h.nd,fun q hq=>⟨cN hl (h.rng q hq).1,(h.rng q hq).2⟩⟩
theorem HH.same (h:HH H lo a b V qs x)(hn:H.next≤H'.next)(hf:∀ j∈a :: b :: V :: qs,H'.get j=H.get j):HH H' lo a b V qs x where
 ga:=(hf a h.a_in).trans h.ga
 gb:=(hf b h.b_in).trans h.gb
 gV:=(hf V h.V_in).trans h.gV
 len:=h.len
 gq i q v h1 h2:=(hf q (h.q_in (aK h1))).trans (h.gq i q v h1 h2)
 nd:=h.nd
 rng q hq:=⟨(h.rng q hq).1,cT (h.rng q hq).2 hn⟩
theorem HH.nodes (h:HH H lo a b V qs x)(hn:H.next≤H'.next){ns:List Int}(ga:H'.get a=some ⟨3,1,ns.map cI,false⟩)(hf:∀ j∈b :: V :: qs,H'.get j=H.get j):HH H' lo a b V qs ⟨⟨ns,x.graph.edges⟩,x.values⟩ where
 ga:=ga
 gb:=(hf b (by simp)).trans h.gb
 gV:=(hf V (by simp)).trans h.gV
 len:=h.len
 gq i q v h1 h2:=(hf q (by simp [aK h1])).trans (h.gq i q v h1 h2)
 nd:=h.nd
 rng q hq:=⟨(h.rng q hq).1,cT (h.rng q hq).2 hn⟩
theorem HH.edges (h:HH H lo a b V qs x)(hn:H.next≤H'.next){es:List Edge}(gb:H'.get b=some ⟨101,3,es.map Edge.c,false⟩)(hf:∀ j∈a :: V :: qs,H'.get j=H.get j):HH H' lo a b V qs ⟨⟨x.graph.nodes,es⟩,x.values⟩ where
 ga:=(hf a (by simp)).trans h.ga
 gb:=gb
 gV:=(hf V (by simp)).trans h.gV
 len:=h.len
 gq i q v h1 h2:=(hf q (by simp [aK h1])).trans (h.gq i q v h1 h2)
 nd:=h.nd
 rng q hq:=⟨(h.rng q hq).1,cT (h.rng q hq).2 hn⟩
theorem HH.rowAdd (h:HH H lo a b V qs x)(hn:H.next≤H'.next){q:Nat}{v:List Int}(hlo:lo≤q)(hq:∀ j∈a :: b :: V :: qs,j≠q)(hq2:q<H'.next)(gq:H'.get q=some ⟨3,1,v.map cI,false⟩)
  (gV:H'.get V=some ⟨34,1,lL qs x.values++[[.own q v.length]],false⟩) (hf:∀ j∈a :: b :: qs,H'.get j=H.get j):HH H' lo a b V (qs++[q]) ⟨x.graph,x.values++[v]⟩ where
 ga:=(hf a (by simp)).trans h.ga
 gb:=(hf b (by simp)).trans h.gb
 gV:=by rw [EG h.len];exact gV
 len:=by simp [h.len]
 gq i q' v' h1 h2:=by
  by_cases hi:i<qs.length
  ·rw [bA hi] at h1
   rw [bA (by rw [← h.len];exact hi)] at h2
   exact (hf q' (by simp [aK h1])).trans (h.gq i q' v' h1 h2)
  ·have h1':=(aO.1 h1).1
   have:i=qs.length:=by simp at h1';omega
   subst this
   simp at h1
   rw [h.len] at h2;simp at h2
   subst h1 h2;exact gq
 nd:=by
  have:=h.nd
  have e:a :: b :: V :: (qs++[q])=(a :: b :: V :: qs)++[q]:=rfl
  rw [e,vT]
  exact ⟨this,by simp,fun y hy z hz=>by rw [cH] at hz;subst hz;exact hq y hy⟩
 rng j hj:=by
  have e:a :: b :: V :: (qs++[q])=(a :: b :: V :: qs)++[q]:=rfl
  rw [e,bD,cH] at hj
  rcases hj with hj|rfl
  ·exact ⟨(h.rng j hj).1,cT (h.rng j hj).2 hn⟩
  ·exact ⟨hlo,hq2⟩
theorem HH.rowSet (h:HH H lo a b V qs x)(hn:H.next≤H'.next){i q:Nat}{v v':List Int}(h1:qs[i]?=some q)(h2:x.values[i]?=some v)(hl:v'.length=v.length)(gq:H'.get q=some ⟨3,1,v'.map cI,false⟩)
  (hf:∀ j∈a :: b :: V :: qs,j≠q→H'.get j=H.get j):HH H' lo a b V qs ⟨x.graph,x.values.set i v'⟩ where
 ga:=(hf a h.a_in (Ne.symm (h.qn (aK h1)).1)).trans h.ga
 gb:=(hf b h.b_in (Ne.symm (h.qn (aK h1)).2.1)).trans h.gb
 gV:=by rw [P3 h2 hl];exact (hf V h.V_in (Ne.symm (h.qn (aK h1)).2.2)).trans h.gV
 len:=by simp [h.len]
 gq j q' w k1 k2:=by
  have hqn:qs.Nodup:=by have:=h.nd;simp only [eE] at this;exact this.2.2.2
  rw [c6] at k2
  by_cases hj:i=j
  ·subst hj
   rw [h1] at k1;cases k1
   rw [if_pos rfl] at k2
   split at k2
   ·cases k2;exact gq
   ·cases k2
  ·rw [if_neg hj] at k2
   refine (hf q' (h.q_in (aK k1)) fun e=>hj ?_).trans (h.gq j q' w k1 k2)
   subst e
   obtain ⟨a1,a2⟩:=aO.1 h1
   obtain ⟨b1,b2⟩:=aO.1 k1
   exact (rE hqn).1 (a2.trans b2.symm)
 nd:=h.nd
 rng q hq:=⟨(h.rng q hq).1,cT (h.rng q hq).2 hn⟩
theorem HH.read (h:HH H lo a b V qs x):(lL qs x.values).map (·.map (gQ H))=x.values.map cL:=by
 apply eK
 intro i
 simp only [aR]
 by_cases hi:i<x.values.length
 ·have hq:i<qs.length:=by rw [h.len];exact hi
  have e1:=aA hi
  have e2:=aA hq
  rw [yB e2 e1,e1]
  have:=h.gq i _ _ e2 e1
  simp [gQ,this,cL,dLI]
 ·rw [aX (by rw [nU h.len];omega),aX (by omega)];rfl
theorem HH.deep (h:HH H lo a b V qs x):C0 H (.agg [.own a x.graph.nodes.length,.own b x.graph.edges.length,.own V x.values.length])=x.d:=by
 have h1:∀ l:List (List D),(∀ c∈l,∀ y∈c,∀ i n,y≠D.own i n∧∀ p q r,y≠D.win i p q r)→l.map (·.map (gQ H))=l:=fun l hl=>by
  conv=>rhs;rw [← List.map_id l]
  refine bR fun c hc=>?_
  conv=>rhs;rw [id,← List.map_id c]
  refine bR fun y hy=>?_
  cases y<;>first|rfl|(exfalso;first|exact (hl c hc _ hy _ _).1 rfl|exact (hl c hc _ hy _ 0).2 _ _ _ rfl)
 simp only [C0,K1,fA,rK,h.ga,h.gb,h.gV,bE,nU h.len,if_true,h.read]
 rw [h1 (x.graph.nodes.map cI) (fun c hc y hy i n=>by
  rw [aU] at hc;obtain ⟨z,_,rfl⟩:=hc
  simp [cI] at hy;subst hy;simp),h1 (x.graph.edges.map Edge.c) (fun c hc y hy i n=>by
  rw [aU] at hc;obtain ⟨z,_,rfl⟩:=hc
  simp [Edge.c,dI] at hy;rcases hy with rfl|rfl|rfl<;>simp)]
 rfl
theorem Mb {l:List (List D)}(hl:∀ c∈l,∀ y∈c,iW y=[]):l.flatten.flatMap iW=[]:=by
 rw [List.eq_nil_iff_forall_not_mem]
 intro i hi
 rw [bU] at hi
 obtain ⟨y,hy,hi⟩:=hi
 rw [kG] at hy
 obtain ⟨c,hc,hy⟩:=hy
 rw [hl c hc y hy] at hi;cases hi
theorem HH.ids (h:HH H lo a b V qs x)(n m k:Nat)(e:Int):∀ i∈zH H (.tup [.agg [.own a n,.own b m,.own V k],dI e]),i∈a :: b :: V :: qs:=by
 intro i hi
 have e1:(x.graph.nodes.map cI).flatten.flatMap iW=[]:=Mb fun c hc y hy=>by
  rw [aU] at hc;obtain ⟨z,_,rfl⟩:=hc
  simp [cI] at hy;subst hy;rfl
 have e2:(x.graph.edges.map Edge.c).flatten.flatMap iW=[]:=Mb fun c hc y hy=>by
  rw [aU] at hc;obtain ⟨z,_,rfl⟩:=hc
  simp [Edge.c,dI] at hy;rcases hy with rfl|rfl|rfl<;>rfl
 simp only [zH,FJ,J1,vU,HB,h.ga,h.gb,h.gV,e1,e2,dI,iW,fE,bD,bB,mJ,or_false] at hi
 rcases hi with rfl|rfl|rfl|hi
 ·exact h.a_in
 ·exact h.b_in
 ·exact h.V_in
 ·rw [bU] at hi
  obtain ⟨y,hy,hi⟩:=hi
  rw [kG] at hy
  obtain ⟨c,hc,hy⟩:=hy
  simp only [lL] at hc
  obtain ⟨j,hj,rfl⟩:=aT hc
  rw [List.getElem_zipWith,cH] at hy
  subst hy
  simp only [iW,cH] at hi
  subst hi
  exact h.q_in (aB _)
end
theorem M3 (h:Host):D.clL h.c=true:=by simp [Host.c,D.clL,D.cl,n3,t8];exact dA _ (fun v=>by simp [cL,D.clL,n3]) _
@[go_sem] theorem Xk (h:Host):h.d.cl=true:=by simp [Host.d,D.cl,M3]
/-! ### Extract -/
def U2 (t:Types)(h:Host)(p:Part):Int:=if lH t h≠0 then lH t h else subF h.graph p
def SR (t:Types)(h:Host)(p:Part):Host:=if U2 t h p=0 then ⟨cM h.graph p,p.nodes.map fun k=>h.values[k.toNat]?.getD []⟩ else ⟨⟨[],[]⟩,[]⟩
theorem G7 (t:Types)(ht:t.ok)(h:Host)(p:Part)(hl:p.nodes.length≤1000000)(hle:p.edges.length≤1000000):Pure Tryz.prog 171 [t.d,h.d,p.d] (.tup [(SR t h p).d,dI (U2 t h p)]):=by
 refine Tz.pK ⟨fun t=>t==6||t==10||t==11||t==13||t==48,fun r=>match r with|11=>[(0,2),(1,2),(2,3),(2,4),(2,5),(2,6),(2,8),(2,9),(2,10),(2,11),(0,12),(1,12),(0,13),(1,13)]|_=>[]⟩ Tryz.func171 rfl (fun Q hQ=>?_)
 have Y:=wa @Host.d.eq_1 @Host.c.eq_1
 refine wv (h:=aC (wU t ht h) wl ?_)
 refine d7 (fun h2=>?_) fun h2=>?_
 ·have hE:U2 t h p=(vM t h).2:=by unfold U2;rw [if_pos (by unfold lH;omega)];rfl
  have hX:SR t h p=⟨⟨[],[]⟩,[]⟩:=by unfold SR;rw [if_neg (by omega)]
  exact wv (h:=hQ _ _ (by simp [go_sem,hE,hX,dLI]))
 ·have h0:lH t h=0:=by unfold lH;omega
  have hE:U2 t h p=subF h.graph p:=by unfold U2;rw [if_neg (by omega)]
  have ho:=Ck h0
  have hrow:=ho.row
  have hgl:=bZ ho.gg
  have hvl:=ho.vl
  refine wv (h:=aC (sQ h.graph p hl hle) wl ?_)
  refine d7 (fun h5=>?_) fun h5=>?_
  ·have hX:SR t h p=⟨⟨[],[]⟩,[]⟩:=by unfold SR;rw [if_neg (by omega)]
   exact wv (h:=hQ _ _ (by simp [go_sem,hE,hX,dLI]))
  ·have h5':subF h.graph p=0:=by omega
   obtain ⟨hs1,hs2,hs3,hs4⟩:=x9 h5'
   have hP:zE h.graph p=p:=by unfold zE;rw [if_pos h5']
   have hX:SR t h p=⟨cM h.graph p,p.nodes.map fun k=>h.values[k.toNat]?.getD []⟩:=by unfold SR;rw [if_pos (by omega)]
   have Y:=wa Y (wa hP (wa @Part.d.eq_1 (wa @Part.c.eq_1 (wa @Graph.d.eq_1 @Graph.c.eq_1))))
   refine wv (h:=uX (Ghosts.step (Ghosts.refl _) 3 0 2 34 1 _ _ ((by simp [go_sem];rfl)) rfl rfl rfl) (fun i e H=>∃ vs:List (List Int),(e 3=.adr t.c∧e 4=.adr h.c∧e 5=.adr p.c∧e 6=.ptr 0 1 0 0∧e 10=.ptr 1 1 0 0∧e 11=.ptr 2 1 0 0∧e 13=.ptr 3 1 0 0∧e 14=dI i)∧(H.get 0=some ⟨40,3,[[.nil,.nil,.nil]],false⟩)∧(0<H.next)∧(H.get 1=some ⟨37,2,[(cM h.graph p).c],false⟩)∧(1<H.next)∧(H.get 2=some ⟨56,2,[p.c],false⟩)∧(2<H.next)∧(H.get 3=some ⟨40,3,[[dLI (cM h.graph p).nodes,.list ((cM h.graph p).edges.map Edge.c),.own 4 vs.length]],false⟩)∧(3<H.next)∧(H.get 4=some ⟨34,1,vs.map cL,false⟩)∧(4<H.next)∧(i≤p.nodes.length)∧(vs=(p.nodes.take i).map fun k=>h.values[k.toNat]?.getD [])∧(vs.length=i)) (fun i=>p.nodes.length - i) 0 ⟨([]),wg,wn,wn,wn,wn,wn,wn,wn,wn,wn,wn,wi,(by rfl),(by rfl)⟩ fun I0 hI0 i e H hi0=>?_)
   obtain ⟨vs,E0,g0_0,n0_0,g1_0,n1_0,g2_0,n2_0,g3_0,n3_0,g4_0,n4_0,hi,hvs,hvl2⟩:=hi0
   have Y:=wa Y (wa E0 (wa g0_0 (wa (cG n0_0) (wa g1_0 (wa (cG n1_0) (wa g2_0 (wa (cG n2_0) (wa g3_0 (wa (cG n3_0) (wa g4_0 (cG n4_0)))))))))))
   refine pH (fun h9=>?_) fun h9=>?_
   ·have hk:=hs3 _ (aB h9)
    have hkv:p.nodes[i].toNat<h.values.length:=by omega
    have hr8:=(hrow _ (aB hkv)).1
    have Y:=wa Y (wa h9 (wa (aA h9) (wa (aA hkv) @cL.eq_1)))
    exact wp (h:=wx hI0 (i+1) ⟨(vs++[h.values[p.nodes[i].toNat]]),wg,wn,wn,wn,wn,wn,wn,wn,wn,wn,wn,wj,(by (rw [fJ _ h9,← hvs,aA hkv];rfl)),(by (simp;omega))⟩)
   ·have hVS:vs=p.nodes.map fun k=>h.values[k.toNat]?.getD []:=by rw [hvs,gH _ (by omega)]
    exact wv (h:=hQ _ _ (by simp [go_sem,Y,hE,hX,h5',hVS,cL]))
theorem G8 (h:Host)(hn:h.graph.nodes.length≤100000)(he:h.graph.edges.length≤100000)(hv:h.values.length≤100000)(hr:∀ v∈h.values,v.length≤100000)(G:AHeap)(Q:D→AHeap→Prop)
  (hQ:∀ a b V qs H',HH H' G.next a b V qs h→(∀ j,j<G.next→H'.get j=G.get j)→G.next≤H'.next→Q (.agg [.own a h.graph.nodes.length,.own b h.graph.edges.length,.own V h.values.length]) H'):ACalls Tryz.prog 87 [h.d] G Q:=by
 refine (aH (cfg:=⟨fun t=>t==2||t==3||t==18||t==1000001,fun r=>match r with|5=>[(0,2),(1,2),(2,3),(2,4),(2,6),(2,7),(0,8),(1,8),(0,9),(1,9)]|_=>[]⟩) Tz.mixed Tryz.func87 rfl rfl (aE rfl) (by kernel_rfl) ?_)
 have Y:=wa @Host.d.eq_1 @Host.c.eq_1
 refine wv (h:=?_)
 unfold fB;refine lM h.graph (by omega) (by omega) _ _ (fun a b H1 ha hb hab han hbn hga hgb hfr hnn=>?_)
 simp [go_sem] at ha hb hnn
 have hgR:=hfr G.next (by simp [go_sem])
 simp [go_sem] at hgR
 have hfr1:∀ j,j<G.next→H1.get j=G.get j:=fun j hj=>by
  rw [hfr j (by simp [go_sem];omega)];simp [go_sem,show j≠G.next by omega]
 have nx:=N4 H1.next
 have fr1:=And.intro (cG (show a<H1.next by omega)) (And.intro (cG (show b<H1.next by omega)) (cG (show G.next<H1.next by omega)))
 have di2:=And.intro (c5 (show G.next≠b by omega)) (And.intro (c5 (show G.next≠a by omega)) (c5 (show b≠a by omega)))
 have Y:=wa Y (wa fr1 (wa di2 (wa hga (wa hgb (wa hgR nx)))))
 refine wv (h:=uX (Ghosts.step (Ghosts.refl _) H1.next 0 2 34 1 _ _ ((by simp [go_sem];rfl)) rfl rfl rfl) (fun i e H=>∃ R:Nat,∃ c:Nat,∃ V:Nat,∃ qs:List Nat,(e 1=.adr h.c∧e 2=.ptr R 1 0 0∧e 3=.ptr c 1 0 0∧e 4=dI i)∧(H.get R=some ⟨40,3,[[.nil,.nil,.nil]],false⟩)∧(R<H.next)∧(H.get c=some ⟨40,3,[[.own a h.graph.nodes.length,.own b h.graph.edges.length,.own V i]],false⟩)∧(c<H.next)∧(H.get V=some ⟨34,1,lL qs (h.values.take i),false⟩)∧(V<H.next)∧(i≤h.values.length)∧(HH H (G.next+1) a b V qs ⟨h.graph,h.values.take i⟩)∧((a<c∧b<c∧c<V∧V<H.next∧R<a∧R<b∧R<c∧G.next≤R))∧(∀ q∈qs,V<q)∧(∀ j,j<G.next→H.get j=G.get j)∧(G.next≤H.next)) (fun i=>h.values.length - i) 0 ⟨G.next,H1.next,(H1.next+1),([]),wg,wn,wn,wn,wn,(by (simp [go_sem,Y,lL])),wn,wi,(by (refine ⟨by simp [go_sem,Y],by simp [go_sem,Y],by simp [go_sem,lL],rfl,by simp,by simp;omega,by simp [go_sem];omega⟩)),(by (simp [go_sem];omega)),(by (intro q hq;cases hq)),(by (intro j hj;simp [go_sem,show j≠H1.next by omega,show j≠H1.next+1 by omega];exact hfr1 j hj)),(by (simp [go_sem];omega))⟩ fun I0 hI0 i e H hi0=>?_)
 obtain ⟨R,c,V,qs,E0,gR_0,nR_0,gc_0,nc_0,gV_0,nV_0,hi,hh,hc,hq,hG,hnx⟩:=hi0
 have di3:=And.intro (c5 (show R≠V by omega)) (And.intro (c5 (show R≠c by omega)) (And.intro (c5 (show R≠b by omega)) (And.intro (c5 (show R≠a by omega)) (And.intro (c5 (show V≠c by omega)) (And.intro (c5 (show V≠b by omega)) (And.intro (c5 (show V≠a by omega)) (And.intro (c5 (show c≠b by omega)) (And.intro (c5 (show c≠a by omega)) (c5 (show b≠a by omega))))))))))
 have Y:=wa Y (wa @Host.c.eq_1 (wa E0 (wa gR_0 (wa (cG nR_0) (wa gc_0 (wa (cG nc_0) (wa gV_0 (wa (cG nV_0) di3))))))))
 refine pH (fun h3=>?_) fun h3=>?_
 ·have hr8:=hr _ (aB h3)
  have hfrm:∀ j∈a :: b :: qs,j≠V∧j≠c∧j<H.next:=fun j hj=>by
   simp only [bB] at hj
   rcases hj with rfl|rfl|hj
   ·exact ⟨by omega,by omega,(hh.rng _ hh.a_in).2⟩
   ·exact ⟨by omega,by omega,(hh.rng _ hh.b_in).2⟩
   ·have:=hq j hj;exact ⟨by omega,by omega,(hh.rng _ (hh.q_in hj)).2⟩
  have hrl:(lL qs (h.values.take i)).length=i:=by rw [nU hh.len];simp;omega
  have Y:=wa Y (wa h3 (wa (aA h3) (wa @cL.eq_1 hrl)))
  exact wp (h:=wx hI0 (i+1) ⟨R,c,V,(qs++[H.next+2]),wg,wn,wn,wn,wn,(by (rw [aF h3,EG hh.len];simp [go_sem,Y,cL])),wn,wj,(by (rw [aF h3];exact hh.rowAdd (by first|(simp [go_sem];done)|(simp [go_sem];omega)) (by omega) (fun j hj=>by have:=(hh.rng j hj).2;omega) (by simp [go_sem]) (by simp [go_sem,Y]) (by simp [go_sem,Y,cL]) (fun j hj=>by obtain ⟨k1,k2,k3⟩:=hfrm j hj;simp [go_sem,k1,k2,cG k3]))),(by (simp [go_sem];omega)),(by (intro q hq';rw [bD,cH] at hq';rcases hq' with h1|rfl;exact hq q h1;omega)),(by (intro j hj;simp [go_sem,show j≠H.next+2 by omega,show j≠V by omega,show j≠c by omega];exact hG j hj)),(by (simp [go_sem];omega))⟩)
 ·rw [aI (by omega)] at hh
  have hie:i=h.values.length:=by omega
  have hRj:∀ j∈a :: b :: V :: qs,j≠R:=fun j hj=>by
   simp only [bB] at hj
   rcases hj with rfl|rfl|rfl|hj
   ·omega
   ·omega
   ·omega
   ·have:=hq j hj;omega
  refine wv (h:=?_)
  rw [hie];exact hQ a b V qs _ ((hh.lower (by omega)).same (by simp [go_sem]) (fun j hj=>by simp [go_sem,hRj j hj])) (fun j hj=>by simp [go_sem,show j≠R by omega];exact hG j hj) (by simp [go_sem];omega)
/-! ### exact numbers -/
def EI (l l1:List Nat)(j:Nat):Nat:=if j∈l then l1[l.idxOf j]?.getD 0 else j
theorem AI {l l1:List Nat}(hn:l.Nodup){i j j1:Nat}(h:l[i]?=some j)(h1:l1[i]?=some j1):EI l l1 j=j1:=by
 obtain ⟨hi,he⟩:=aO.1 h
 unfold EI
 rw [if_pos (he ▸ aB hi)]
 have:l.idxOf j=i:=by rw [← he];exact hn.idxOf_getElem i hi
 rw [this,h1];rfl
theorem wQ {l l1:List Nat}{j:Nat}(h:j∉l):EI l l1 j=j:=by unfold EI;rw [if_neg h]
theorem w3 {τ:Nat→Nat}{l:List (List D)}(hl:∀ c∈l,∀ y∈c,zX τ y=y):l.map (·.map (zX τ))=l:=by
 conv=>rhs;rw [← List.map_id l]
 refine bR fun c hc=>?_
 conv=>rhs;rw [id,← List.map_id c]
 exact bR fun y hy=>hl c hc y hy
theorem HH.exact {H H1 E:AHeap}{lo lo1 a b V a1 b1 V1:Nat}{qs qs1:List Nat}{x:Host}(hE:HH E lo a b V qs x)(h1:HH H1 lo1 a1 b1 V1 qs1 x)
  (hnx:∀ j,H.al j→j<H.next) (hnon:∀ j,¬ H.al j→H.get j=none) (Ok:H.next≤E.next)
  (hal:∀ j,E.al j↔H.al j∨j∈a :: b :: V :: qs) (hf1:∀ j,H.al j→j∉a :: b :: V :: qs→H1.get j=H.get j) (hfE:∀ j,j∉a :: b :: V :: qs→E.get j=H.get j)
  (hold:∀ (i j j1:Nat),(a :: b :: V :: qs)[i]?=some j→(a1 :: b1 :: V1 :: qs1)[i]?=some j1→(H.al j→j1=j)∧(¬ H.al j→¬ H.al j1)) :
  ∃ τ,Exact H H1 E τ∧.agg [.own a1 x.graph.nodes.length,.own b1 x.graph.edges.length,.own V1 x.values.length]=RE τ (.agg [.own a x.graph.nodes.length,.own b x.graph.edges.length,.own V x.values.length])∧XC E.al (.agg [.own a x.graph.nodes.length,.own b x.graph.edges.length,.own V x.values.length]):=by
 obtain ⟨l,hl⟩:∃ l,l=a :: b :: V :: qs:=⟨_,rfl⟩
 obtain ⟨l1,hl1⟩:∃ l1,l1=a1 :: b1 :: V1 :: qs1:=⟨_,rfl⟩
 have hnd:=hE.nd
 have hnd1:=h1.nd
 have hin:=hE.rng
 rw [← hl] at hal hf1 hfE hold hnd hin
 rw [← hl1] at hold hnd1
 have hlen:l1.length=l.length:=by rw [hl,hl1];simp [h1.len,hE.len]
 have hpos:∀ j∈l,∃ i j1,l[i]?=some j∧l1[i]?=some j1∧EI l l1 j=j1:=fun j hj=>by
  obtain ⟨i,hi,he⟩:=aT hj
  have e1:l[i]?=some j:=by rw [aA hi,he]
  have e2:=aA (show i<l1.length by omega)
  exact ⟨i,_,e1,e2,AI hnd e1 e2⟩
 have ra:EI l l1 a=a1:=AI hnd (i:=0) (by rw [hl];rfl) (by rw [hl1];rfl)
 have rb:EI l l1 b=b1:=AI hnd (i:=1) (by rw [hl];rfl) (by rw [hl1];rfl)
 have rV:EI l l1 V=V1:=AI hnd (i:=2) (by rw [hl];rfl) (by rw [hl1];rfl)
 have rq:∀ i q q1,qs[i]?=some q→qs1[i]?=some q1→EI l l1 q=q1:=fun i q q1 e e1=>AI hnd (i:=i+3) (by rw [hl];exact e) (by rw [hl1];exact e1)
 have cI_ren:∀ (v:List Int),(v.map cI).map (·.map (zX (EI l l1)))=v.map cI:=fun v=>w3 fun c hc y hy=>by
  rw [aU] at hc;obtain ⟨z,_,rfl⟩:=hc
  simp [cI] at hy;subst hy;rfl
 have cI_ok:∀ (v:List Int),∀ c∈v.map cI,∀ y∈c,VJ E.al y:=fun v c hc y hy=>by
  rw [aU] at hc;obtain ⟨z,_,rfl⟩:=hc
  simp [cI] at hy;subst hy;rfl
 refine ⟨EI l l1,⟨fun j hj=>?_,fun i j hi hj he=>?_,fun j hj=>⟨(hal j).2 (.inl hj),?_⟩,fun j hj=>?_,fun j k hk=>?_⟩,?_,?_⟩
 ·rcases (hal j).1 hj with h|h
  ·exact cT (hnx j h) Ok
  ·exact (hin j h).2
 ·by_cases hi2:i∈l<;>by_cases hj2:j∈l
  ·obtain ⟨p,i1,e1,e2,e3⟩:=hpos i hi2
   obtain ⟨p',j1,f1,f2,f3⟩:=hpos j hj2
   rw [e3,f3] at he
   subst he
   obtain ⟨u1,u2⟩:=aO.1 e2
   obtain ⟨v1,v2⟩:=aO.1 f2
   have:p=p':=(rE hnd1).1 (u2.trans v2.symm)
   subst this
   rw [e1] at f1;cases f1;rfl
  ·obtain ⟨p,i1,e1,e2,e3⟩:=hpos i hi2
   rw [e3,wQ hj2] at he
   subst he
   have hjA:H.al i1:=(((hal i1).1 hj).resolve_right hj2)
   by_cases hiA:H.al i
   ·exact ((hold p i i1 e1 e2).1 hiA).symm
   ·exact absurd hjA ((hold p i i1 e1 e2).2 hiA)
  ·obtain ⟨p,j1,e1,e2,e3⟩:=hpos j hj2
   rw [e3,wQ hi2] at he
   subst he
   have hiA:H.al i:=(((hal i).1 hi).resolve_right hi2)
   by_cases hjA:H.al j
   ·exact (hold p j i e1 e2).1 hjA
   ·exact absurd hiA ((hold p j i e1 e2).2 hjA)
  ·rwa [wQ hi2,wQ hj2] at he
 ·by_cases hj2:j∈l
  ·obtain ⟨p,j1,e1,e2,e3⟩:=hpos j hj2
   rw [e3];exact (hold p j j1 e1 e2).1 hj
  ·exact wQ hj2
 ·have h2:¬ H.al j∧j∉l:=⟨fun h=>hj ((hal j).2 (.inl h)),fun h=>hj ((hal j).2 (.inr h))⟩
  rw [hfE j h2.2];exact hnon j h2.1
 ·by_cases hj2:j∈l
  ·right
   have hj3:=hj2
   rw [hl,bB,bB,bB] at hj3
   rcases hj3 with rfl|rfl|rfl|hq
   ·rw [hE.ga] at hk;cases hk
    rw [ra]
    exact ⟨_,h1.ga,rfl,rfl,rfl,(cI_ren _).symm,cI_ok _⟩
   ·rw [hE.gb] at hk;cases hk
    rw [rb]
    refine ⟨_,h1.gb,rfl,rfl,rfl,(w3 fun c hc y hy=>?_).symm,fun c hc y hy=>?_⟩
    ·rw [aU] at hc;obtain ⟨z,_,rfl⟩:=hc
     simp [Edge.c,dI] at hy;rcases hy with rfl|rfl|rfl<;>rfl
    ·rw [aU] at hc;obtain ⟨z,_,rfl⟩:=hc
     simp [Edge.c,dI] at hy;rcases hy with rfl|rfl|rfl<;>rfl
   ·rw [hE.gV] at hk;cases hk
    rw [rV]
    refine ⟨_,h1.gV,rfl,rfl,rfl,?_,fun c hc y hy=>?_⟩
    ·apply eK
     intro i
     simp only [aR]
     by_cases hi:i<x.values.length
     ·have e0:=aA hi
      have e1:=aA (show i<qs.length by rw [hE.len];exact hi)
      have e2:=aA (show i<qs1.length by rw [h1.len];exact hi)
      rw [yB e1 e0,yB e2 e0]
      simp [zX,rq i _ _ e1 e2]
     ·rw [aX (by rw [nU h1.len];omega),aX (by rw [nU hE.len];omega)];rfl
    ·simp only [lL] at hc
     obtain ⟨i,hi,rfl⟩:=aT hc
     rw [List.getElem_zipWith,cH] at hy
     subst hy
     show E.al _
     exact (hal _).2 (.inr (by rw [hl];exact eH _ (eH _ (eH _ (aB _)))))
   ·obtain ⟨i,hi,rfl⟩:=aT hq
    have e1:=aA hi
    have hiv:i<x.values.length:=by rw [← hE.len];exact hi
    have e0:=aA hiv
    have e2:=aA (show i<qs1.length by rw [h1.len];exact hiv)
    rw [hE.gq i _ _ e1 e0] at hk;cases hk
    rw [rq i _ _ e1 e2]
    exact ⟨_,h1.gq i _ _ e2 e0,rfl,rfl,rfl,(cI_ren _).symm,cI_ok _⟩
  ·left
   have hg:=hfE j hj2
   rw [hk] at hg
   have hA:H.al j:=bP fun hn=>by rw [hnon j hn] at hg;cases hg
   exact ⟨hA,hg.symm,(hf1 j hA hj2).trans hg.symm⟩
 ·simp [RE,zX,ra,rb,rV]
 ·intro c hc
  simp only [bB,mJ,or_false] at hc
  rcases hc with rfl|rfl|rfl
  ·exact (hal _).2 (.inr (by rw [hl];simp))
  ·exact (hal _).2 (.inr (by rw [hl];simp))
  ·exact (hal _).2 (.inr (by rw [hl];simp))
theorem tM {j:Nat}{k:Blk}:∀ (q:List (Nat × Blk)) (H:AHeap),(q.map (·.1)).Nodup→(j,k)∈q→(H.pushs q).get j=some k
 | p :: q,H,hn,hm=>by
  rw [fA,eE] at hn
  rw [bB] at hm
  simp only [AHeap.pushs]
  rcases hm with rfl|hm
  ·rw [l7 q _ _ hn.1];simp [AHeap.push]
  ·exact tM q _ hn.2 hm
def P4 (qs:List Nat)(vs:List (List Int)):List (Nat × Blk):=List.zipWith (fun q (v:List Int)=>(q,(⟨3,1,v.map cI,false⟩:Blk))) qs vs
theorem EH {qs:List Nat}{vs:List (List Int)}(h:qs.length=vs.length):(P4 qs vs).map (·.1)=qs:=by
 unfold P4
 rw [List.map_zipWith]
 apply kH (by simp [h])
 intro i h1 h2;simp
theorem K4 {qs:List Nat}{vs:List (List Int)}{i q:Nat}{v:List Int}(h1:qs[i]?=some q)(h2:vs[i]?=some v):(q,(⟨3,1,v.map cI,false⟩:Blk))∈P4 qs vs :=
 aK (i:=i) (by simp [P4,List.getElem?_zipWith,h1,h2])
def Hn (a b V:Nat)(qs:List Nat)(h:Host):List (Nat × Blk):=(a,⟨3,1,h.graph.nodes.map cI,false⟩) :: (b,⟨101,3,h.graph.edges.map Edge.c,false⟩) :: (V,⟨34,1,lL qs h.values,false⟩) :: P4 qs h.values
theorem Mv {a b V:Nat}{qs:List Nat}{h:Host}(hl:qs.length=h.values.length):(Hn a b V qs h).map (·.1)=a :: b :: V :: qs:=by simp [Hn,EH hl]
theorem Pz {H:AHeap}{a b V:Nat}{qs:List Nat}{h:Host}(hl:qs.length=h.values.length)(hnd:(a :: b :: V :: qs).Nodup)(hlt:∀ j∈a :: b :: V :: qs,j<H.next):HH (H.pushs (Hn a b V qs h)) 0 a b V qs h:=by
 have hids:=Mv (a:=a) (b:=b) (V:=V) hl
 have hn:((Hn a b V qs h).map (·.1)).Nodup:=by rw [hids];exact hnd
 have hnx:(H.pushs (Hn a b V qs h)).next=H.next:=nW _ _ fun p hp=>hlt p.1 (by rw [← hids];exact mE hp)
 refine ⟨tM _ _ hn (by simp [Hn]),tM _ _ hn (by simp [Hn]),tM _ _ hn (by simp [Hn]),hl,fun i q v h1 h2=>tM _ _ hn ?_,hnd,fun q hq=>⟨dY _,by rw [hnx];exact hlt q hq⟩⟩
 exact eH _ (eH _ (eH _ (K4 h1 h2)))
theorem Hm {md:Nat→Bool}{ops:Array Oper}{sp:List (Nat × Nat)}{n0 i:Nat}{rest:List Oper}{acc:List (Nat × List Nat)}{e:cY}{dst:Option Tmp}{K:cY→AHeap→Prop}{H:AHeap}
  (h:Host) (hn:h.graph.nodes.length≤100000) (he:h.graph.edges.length≤100000) (hv:h.values.length≤100000) (hr:∀ v∈h.values,v.length≤100000)
  (a b V:Nat) (qs:List Nat) (hl:qs.length=h.values.length) (hnd:(a :: b :: V :: qs).Nodup) (hn0:n0≤H.next) (hfr:∀ j∈a :: b :: V :: qs,j<n0∧¬ H.al j) (hmd:Df md dst=true) (hc:Ke sp i (a :: b :: V :: qs) acc)
  (hK:∀ E,HH E 0 a b V qs h→(∀ j,j∉a :: b :: V :: qs→E.get j=H.get j)→(∀ j,E.al j↔H.al j∨j∈a :: b :: V :: qs)→E.next=H.next →
   iS Tryz.prog md ops sp n0 (i+1) rest ((i,a :: b :: V :: qs) :: acc) (oW e dst (.agg [.own a h.graph.nodes.length,.own b h.graph.edges.length,.own V h.values.length])) E K) :
  o7 Tryz.prog md ops sp n0 i rest acc e dst K 87 [h.d] H:=by
 have hids:=Mv (a:=a) (b:=b) (V:=V) hl
 unfold o7
 refine Or.inr ⟨hmd,.agg [.own a h.graph.nodes.length,.own b h.graph.edges.length,.own V h.values.length],[],[],Hn a b V qs h,fun p hp=>absurd hp (mJ),fun p hp=>hfr p.1 (by rw [← hids];exact mE hp),fun H' _ hfresh=>?_,?_,?_⟩
 ·have hf':∀ j∈a :: b :: V :: qs,j<H'.next∧¬ H'.al j:=fun j hj=>by
   rw [← hids,aU] at hj
   obtain ⟨p,hp,rfl⟩:=hj
   exact hfresh p hp
  refine ACalls.exact (E:=H'.pushs (Hn a b V qs h)) (G8 h hn he hv hr H' (fun d H1=>∃ a1 b1 V1 qs1,HH H1 H'.next a1 b1 V1 qs1 h∧(∀ j,j<H'.next→H1.get j=H'.get j)∧d=.agg [.own a1 h.graph.nodes.length,.own b1 h.graph.edges.length,.own V1 h.values.length]) (fun a1 b1 V1 qs1 H1 h1 h2 _=>⟨a1,b1,V1,qs1,h1,h2,rfl⟩)) ?_
  rintro hnx hnon d H1 ⟨a1,b1,V1,qs1,h1,h2,rfl⟩
  refine HH.exact (Pz hl hnd fun j hj=>(hf' j hj).1) h1 hnx hnon ?_ (fun j=>?_) (fun j hj _=>h2 j (hnx j hj)) (fun j hj=>l7 _ _ _ (by rw [hids];exact hj)) (fun i j j1 e e1=>⟨fun hA=>absurd hA (hf' j (aK e)).2,fun _ hA=>?_⟩)
  ·rw [nW _ _ fun p hp=>(hfresh p hp).1];exact bQ _
  ·rw [qI,hids]
  ·have:=(h1.rng j1 (aK e1)).1
   have:=hnx j1 hA
   omega
 ·rw [hids];exact hc
 ·rw [hids]
  refine hK _ (Pz hl hnd fun j hj=>cT (hfr j hj).1 hn0) (fun j hj=>l7 _ _ _ (by rw [hids];exact hj)) (fun j=>by rw [qI,hids];rfl) (nW _ _ fun p hp=>cT (hfr p.1 (by rw [← hids];exact mE hp)).1 hn0)
theorem L5 {α:Type}{f:α→Int}{m:Int}(h0:(0:Int)≠m)(h:∀ x,f x≠m):∀ l,dL f l≠m
 | []=>h0
 | x :: l=>by
  simp only [dL];split
  ·exact h x
  ·exact L5 h0 h l
theorem PW (n:Int)(l:List Test):jJ n l≠9:=by
 unfold jJ
 split
 ·decide
 ·split
  ·decide
  ·refine L5 (by decide) (fun x=>?_) l
   unfold rL;split
   ·decide
   ·split<;>decide
structure PatOk (t:Types) (q:Pattern):Prop where
 vf:(cW t).2=0
 gg:graphF q.graph=0
 ty:iT t q.graph=true
 vars:0≤q.vars∧q.vars≤12
 few:q.slots.length≤10∧q.tests.length≤10
 slot:∀ s∈q.slots,fS t q s=0
 test:∀ x∈q.tests,rL q.vars x=0
theorem LK {t:Types}{q:Pattern}(h:cJ t q=9∨cJ t q=0):PatOk t q:=by
 have hv:=jD h
 have hne:=HG t
 have hg9:graphF q.graph≠9:=by
  unfold graphF;repeat' split
  all_goals decide
 have ht9:=PW q.vars q.tests
 unfold cJ at h
 by_cases h1:(cW t).2=0
 ·rw [if_neg (by omega)] at h
  by_cases h2:graphF q.graph=0
  ·rw [if_neg (by omega)] at h
   by_cases h3:iT t q.graph=false
   ·rw [if_pos h3] at h;omega
   ·rw [if_neg h3] at h
    by_cases h4:inF q.vars 0 12=false
    ·rw [if_pos h4] at h;omega
    ·rw [if_neg h4] at h
     by_cases h5:10<q.slots.length∨10<q.tests.length
     ·rw [if_pos h5] at h;omega
     ·rw [if_neg h5] at h
      by_cases h6:dL (fS t q) q.slots=0
      ·rw [if_neg (by omega)] at h
       by_cases h7:jJ q.vars q.tests=0
       ·refine ⟨h1,h2,by simpa using h3,hv,by omega,nY h6,nY ?_⟩
        unfold jJ at h7
        split at h7
        ·cases h7
        ·split at h7
         ·cases h7
         ·exact h7
       ·rw [if_pos h7] at h;omega
      ·rw [if_pos h6] at h;omega
  ·rw [if_pos h2] at h;omega
 ·rw [if_pos h1] at h;omega
theorem KQ {n:Int}{x:Term}(h:termB n x=true)(hn:0≤n):s8 x n.toNat:=by
 simp only [termB,aL,decide_eq_true_eq] at h
 exact ⟨⟨by omega,by omega⟩,by omega,by omega⟩
theorem PatOk.tests {t:Types}{q:Pattern}(hp:PatOk t q):∀ x∈q.tests,Kq x q.vars.toNat:=fun x hx=>by
 have:=hp.test x hx
 unfold rL at this
 split at this
 ·cases this
 ·rename_i h1
  split at this
  ·rename_i h2
   rw [aL] at h2
   exact ⟨by omega,KQ h2.1 hp.vars.1,KQ h2.2 hp.vars.1⟩
  ·cases this
theorem PatOk.slots {t:Types}{q:Pattern}(hp:PatOk t q):∀ s∈q.slots,(0≤s.node∧s.node<q.graph.nodes.length)∧(0≤s.attr∧s.attr<(b7 t (q.graph.nodes[s.node.toNat]?.getD 0)).length)∧s8 s.term q.vars.toNat:=fun s hs=>by
 have:=hp.slot s hs
 have hv:=hp.vars
 unfold fS at this
 split at this
 ·rename_i h1
  simp only [aL,jR,decide_eq_true_eq,inF,Pattern.kind] at h1
  exact ⟨h1.1.1.1,⟨h1.1.1.2.1,of_decide_eq_true h1.1.1.2.2⟩,⟨by omega,by omega⟩,by omega,by omega⟩
 ·cases this
structure MOk (t:Types) (p g:Graph) (m:Part):Prop where
 len:m.nodes.length=p.nodes.length
 elen:m.edges.length=p.edges.length
 img:∀ (i:Nat) (hi:i<m.nodes.length) (hp:i<p.nodes.length),(0≤m.nodes[i]∧m.nodes[i]<g.nodes.length)∧y0 t p.nodes[i] (g.nodes[m.nodes[i].toNat]?.getD 0)=true
 eimg:∀ (i:Nat) (hi:i<m.edges.length),0≤m.edges[i]∧m.edges[i]<g.edges.length
theorem z2 {t:Types}{p g:Graph}{m:Part}{inj:Bool}(h:qP t p g m inj=0):MOk t p g m:=by
 obtain ⟨⟨h1,h2⟩,h3,h4⟩:=Is h
 refine ⟨h1,h2,fun i hi hp=>⟨h3 _ (aB hi),?_⟩,fun i hi=>h4 _ (aB hi)⟩
 unfold qP at h
 rw [if_neg (by omega)] at h
 split at h
 ·exact absurd h (by assumption)
 ·rename_i h5
  have:=fI _ _ (by simpa using h5) i (dY _) (by omega)
  unfold Re at this
  rw [aA hi,aA hp,aD,aD] at this
  split at this
  ·cases this
  ·split at this
   ·assumption
   ·cases this
theorem Ml {S:Srch}{ns:List Int}:∀ (d:Nat) (l es:List Int),es∈DR S ns d l→es.length=l.length+d∧(∀ x∈l,0≤x∧x<S.g.edges.length→True)∧((∀ x∈l,0≤x∧x<S.g.edges.length)→∀ x∈es,0≤x∧x<S.g.edges.length)
 | 0,l,es,h=>by
  simp only [DR,cH] at h;subst h
  exact ⟨rfl,fun _ _ _=>trivial,fun h=>h⟩
 | d+1,l,es,h=>by
  simp only [DR,bU,cO,aZ] at h
  obtain ⟨k,⟨hk,_⟩,hr⟩:=h
  obtain ⟨h1,_,h3⟩:=Ml d _ es hr
  refine ⟨by simp at h1;omega,fun _ _ _=>trivial,fun hl=>h3 fun x hx=>?_⟩
  rw [bD,cH] at hx
  rcases hx with hx|rfl
  ·exact hl x hx
  ·omega
theorem Mk {S:Srch}:∀ (d:Nat) (l:List Int) (m:Part),m∈FV S d l→m.nodes.length=l.length+d∧∀ i,l.length≤i→i<l.length+d→∃ k:Nat,m.nodes[i]?=some (k:Int)∧k<S.g.nodes.length∧y0 S.t (S.p.nodes[i]?.getD 0) (S.g.nodes[k]?.getD 0)=true
 | 0,l,m,h=>by
  simp only [FV,aU] at h
  obtain ⟨es,_,rfl⟩:=h
  exact ⟨rfl,fun i h1 h2=>by omega⟩
 | d+1,l,m,h=>by
  have h':=h
  simp only [FV,bU,cO,aZ] at h
  obtain ⟨k,⟨hk,ho⟩,hr⟩:=h
  obtain ⟨h1,h2⟩:=Mk d _ m hr
  simp at h1 h2
  refine ⟨by omega,fun i h3 h4=>?_⟩
  by_cases hi:i=l.length
  ·subst hi
   obtain ⟨⟨r,hr2⟩,_⟩:=Bj d _ m hr
   refine ⟨k,by rw [hr2];simp,hk,?_⟩
   simp only [S8,aL] at ho
   exact ho.2.2
  ·exact h2 i (by omega) (by omega)
theorem MW {S:Srch}{m:Part}(h:m∈CL S):MOk S.t S.p S.g m:=by
 unfold CL at h
 obtain ⟨h1,h2⟩:=Mk _ _ m h
 obtain ⟨_,h3⟩:=Bj _ _ m h
 obtain ⟨h4,_,h5⟩:=Ml _ _ _ h3
 simp at h1 h2 h4
 refine ⟨h1,h4,fun i hi hp=>?_,fun i hi=>h5 (by intro x hx;cases hx) _ (aB hi)⟩
 obtain ⟨k,k1,k2,k3⟩:=h2 i (by omega)
 rw [aA hi] at k1
 have hk:m.nodes[i]=(k:Int):=Option.some.inj k1
 rw [aA hp,aD] at k3
 rw [hk]
 exact ⟨by omega,by simpa using k3⟩
theorem sA {t:Types}{h:Host}(ho:HostOk t h):∀ a∈h.graph.nodes,0≤a∧a<t.nodes.length:=fun a ha=>by
 obtain ⟨i,hi,rfl⟩:=aT ha
 have:=ho.vl
 exact ⟨((eP ho.gg).1 _ ha).1,(tX (ho.nd i hi (by omega))).1⟩
theorem Vt {t:Types}{q:Pattern}{h:Host}{m:Part}(hp:PatOk t q)(ho:HostOk t h)(hm:MOk t q.graph h.graph m):SOk q h m where
 vars:=hp.vars
 node s hs:=by have:=hp.slots s hs;have:=hm.len;omega
 img k hk:=by
  obtain ⟨i,hi,rfl⟩:=aT hk
  have:=(hm.img i hi (by have:=hm.len;omega)).1
  have:=ho.vl
  omega
 attr s hs:=by
  obtain ⟨h1,h2,_⟩:=hp.slots s hs
  have hl:=hm.len
  have hi:s.node.toNat<m.nodes.length:=by omega
  have hq:s.node.toNat<q.graph.nodes.length:=by omega
  obtain ⟨h3,h4⟩:=hm.img _ hi hq
  have hvl:=ho.vl
  have hk:m.nodes[s.node.toNat].toNat<h.graph.nodes.length:=by omega
  have hkv:m.nodes[s.node.toNat].toNat<h.values.length:=by omega
  rw [aA hi,aD,aA hkv,aD]
  rw [aA hq,aD] at h2
  rw [aA hk,aD] at h4
  have ha:=(j7 hp.gg hp.ty).1 _ (aB hq)
  have hb:=sA ho _ (aB hk)
  rw [p6 hp.vf ha.1 ha.2] at h2
  have hrow:=(tX (ho.nd _ hk hkv)).2.2.1
  rw [p6 hp.vf hb.1 hb.2] at hrow
  unfold y0 at h4
  obtain ⟨r,hr⟩:=Ja (fF hp.vf) (h.graph.nodes[m.nodes[s.node.toNat].toNat]).toNat (by omega) (q.graph.nodes[s.node.toNat]).toNat (by rw [Int.toNat_of_nonneg ha.1];exact h4)
  rw [hr,aG] at hrow
  omega
 small l hl v hv:=(ho.row l hl).2 v hv
 term s hs:=(hp.slots s hs).2.2
 test:=hp.tests
/-! ### values -/
def Nt (p:Pattern)(vs:List Int):List Int × List Bool:=(vs++List.replicate (p.vars.toNat - vs.length) 0,List.replicate vs.length true++List.replicate (p.vars.toNat - vs.length) false)
theorem O5 (p:Pattern):Nt p []=(List.replicate p.vars.toNat 0,List.replicate p.vars.toNat false):=by simp [Nt]
theorem g5 {p:Pattern}{h:Host}{m:Part}{vs:List Int}(h0:iU h m (Nt p vs) p.slots=none):fX p h m vs=([],11):=by
 unfold fX;unfold Nt at h0;rw [h0]
theorem uJ {p:Pattern}{h:Host}{m:Part}{vs:List Int}{q:List Int × List Bool}(h0:iU h m (Nt p vs) p.slots=some q):fX p h m vs=if p.tests.all (fun x=>En x q.1)=true then (q.1,0) else ([],16):=by
 unfold fX;unfold Nt at h0;rw [h0]
structure StOk (n:Nat) (st:List Int × List Bool):Prop where
 l1:st.1.length=n
 l2:st.2.length=n
 sm:∀ v∈st.1,-2000000≤v∧v≤2000000
theorem StOk.big {n:Nat}{st:List Int × List Bool}(h:StOk n st):Sm st.1:=fun v hv=>by have:=h.sm v hv;omega
theorem Rs {p:Pattern}{vs:List Int}(hv:0≤p.vars)(hl:vs.length≤p.vars.toNat)(hs:∀ v∈vs,-2000000≤v∧v≤2000000):StOk p.vars.toNat (Nt p vs):=by
 refine ⟨by simp [Nt];omega,by simp [Nt];omega,fun v h=>?_⟩
 simp only [Nt,bD,List.mem_replicate] at h
 rcases h with h|h
 ·exact hs v h
 ·omega
theorem Ew {n:Nat}{h:Host}{m:Part}{st:List Int × List Bool}{s:Slot}(hst:StOk n st)(hb : -1000000≤nQ h m s∧nQ h m s≤1000000)(ht:s8 s.term n):StOk n (oI h m st s):=by
 unfold oI
 split
 ·refine ⟨by simp [hst.l1],by simp [hst.l2],fun v hv=>?_⟩
  rcases fG hv with h1|rfl
  ·exact hst.sm v h1
  ·have:=ht.2;omega
 ·exact hst
theorem SOk.have_ {p:Pattern}{h:Host}{m:Part}(hO:SOk p h m){s:Slot}(hs:s∈p.slots) : -1000000≤nQ h m s∧nQ h m s≤1000000:=by
 have hn:=hO.node s hs
 have hn2:s.node.toNat<m.nodes.length:=by omega
 have hk:=hO.img _ (aB hn2)
 have hk2:(m.nodes[s.node.toNat]).toNat<h.values.length:=by omega
 have ha:=hO.attr s hs
 unfold nQ
 rw [aA hn2,aD,aA hk2,aD] at ha ⊢
 have ha2:s.attr.toNat<(h.values[(m.nodes[s.node.toNat]).toNat]).length:=by omega
 rw [aA ha2]
 exact hO.small _ (aB hk2) _ (aB ha2)
theorem HO {p:Pattern}{h:Host}{m:Part}(hO:SOk p h m):∀ (l:List Slot) (st q:List Int × List Bool),(∀ s∈l,s∈p.slots)→StOk p.vars.toNat st→iU h m st l=some q→StOk p.vars.toNat q
 | [],st,q,_,hst,hq=>by simp only [iU,bH] at hq;exact hq ▸ hst
 | s :: l,st,q,hl,hst,hq=>by
  simp only [iU] at hq
  split at hq
  ·have hs:=hl s (jE ..)
   exact HO hO l _ q (fun x hx=>hl x (eH _ hx)) (Ew hst (hO.have_ hs) (hO.term s hs)) hq
  ·cases hq
theorem zT {p:Pattern}{h:Host}{m:Part}(hO:SOk p h m){vs:List Int}(hl:vs.length≤p.vars.toNat)(hs:∀ v∈vs,-2000000≤v∧v≤2000000)(h0:(fX p h m vs).2=0) :
  (fX p h m vs).1.length=p.vars.toNat∧∀ v∈(fX p h m vs).1,-2000000≤v∧v≤2000000:=by
 cases hq:iU h m (Nt p vs) p.slots with
 | none=>rw [g5 hq] at h0;cases h0
 | some q =>
  have hk:=HO hO _ _ _ (fun _ h=>h) (Rs hO.vars.1 hl hs) hq
  rw [uJ hq] at h0 ⊢
  split at h0
  ·rename_i h1;rw [if_pos h1];exact ⟨hk.l1,hk.sm⟩
  ·cases h0
theorem uH (q:Pattern)(h:Host)(vars:List Int)(l:List Part)(x:Part):wF q h vars (l++[x])=wF q h vars l++if (fX q h x vars).2=0 then [⟨x,(fX q h x vars).1⟩] else []:=by
 unfold wF
 rw [List.filterMap_append]
 congr 1
 simp only [List.filterMap_cons,List.filterMap_nil]
 split<;>simp_all
theorem p5 (o:Option Bool):(Option.map cB o).getD [D.bool false]=cB (o.getD false):=by cases o<;>rfl
theorem AM (p:Pattern)(h:Host)(m:Part)(hO:SOk p h m):Pure Tryz.prog 148 [p.d,h.d,m.d] (.tup [dLI (fX p h m []).1,dI (fX p h m []).2]):=by
 have hv:=hO.vars
 have h0:=Rs (vs:=[]) hv.1 (by simp) (by simp)
 rw [O5] at h0
 refine Tz.pK ⟨fun t=>t==11,fun _=>[]⟩ Tryz.func148 rfl (fun Q hQ=>?_)
 have Y:=wa @Pattern.d.eq_1 (wa @Pattern.c.eq_1 (wa @Host.d.eq_1 (wa @Host.c.eq_1 (wa @Part.d.eq_1 (wa @Part.c.eq_1 @Term.c.eq_1)))))
 refine wp (h:=bG (fun i e H=>∃ st:List Int × List Bool,(e 3=.adr p.c∧e 4=.adr h.c∧e 5=.adr m.c∧e 8=.own 0 p.vars.toNat∧e 9=.own 1 p.vars.toNat∧e 10=dI i)∧(H.get 0=some ⟨3,1,st.1.map cI,false⟩)∧(0<H.next)∧(H.get 1=some ⟨4,1,st.2.map cB,false⟩)∧(1<H.next)∧(i≤p.slots.length)∧(StOk p.vars.toNat st)∧(iU h m (Nt p []) (p.slots.take i)=some st)) (fun i=>p.slots.length - i) 0 ⟨((List.replicate p.vars.toNat 0,List.replicate p.vars.toNat false)),wg,(by (simp [go_sem,cI])),wn,(by (simp [go_sem,cB])),wn,wi,(by exact h0),(by (rw [O5];rfl))⟩ fun I0 hI0 i e H hi0=>?_)
 obtain ⟨st,E0,g0_0,n0_0,g1_0,n1_0,hi,hst,hsl⟩:=hi0
 have Y:=wa Y (wa E0 (wa g0_0 (wa (cG n0_0) (wa g1_0 (cG n1_0)))))
 refine wv (h:=?_)
 repeat first|intro _|refine ⟨eI,?_⟩
 refine wq (fun h4=>?_) fun h4=>?_
 ·obtain ⟨x,hx⟩:∃ x,x=p.slots[i]:=⟨_,rfl⟩
  have hxm:x∈p.slots:=hx ▸ aB h4
  have hn:=hO.node x hxm
  have hn2:x.node.toNat<m.nodes.length:=by omega
  have hk:=hO.img _ (aB hn2)
  have hk2:(m.nodes[x.node.toNat]).toNat<h.values.length:=by omega
  have ha:=hO.attr x hxm
  rw [aA hn2,aD,aA hk2,aD] at ha
  have ha2:x.attr.toNat<(h.values[(m.nodes[x.node.toNat]).toNat]).length:=by omega
  have hV:nQ h m x=h.values[(m.nodes[x.node.toNat]).toNat][x.attr.toNat]:=by unfold nQ;rw [aA hn2,aD,aA hk2,aD,aA ha2];rfl
  have hb:=hO.have_ hxm
  have hT:=hO.term x hxm
  have hl1:=hst.l1
  have hl2:=hst.l2
  have hTv:=hT.1
  have hTa:=hT.2
  have hSt:=CX h4 hsl
  rw [← hx] at hSt
  obtain ⟨s2,hs2e⟩:∃ y,y=oI h m st x:=⟨_,rfl⟩
  have hs2:StOk p.vars.toNat s2:=hs2e ▸ Ew hst hb hT
  rw [← hs2e] at hSt
  have hs2n:¬ 0≤x.term.var→s2=st:=fun hn=>by rw [hs2e];unfold oI qW;rw [if_neg (by simp [hn])]
  have vlt:0≤x.term.var→x.term.var.toNat<st.2.length:=fun hn=>by omega
  obtain ⟨kb,hkb⟩:∃ kb,kb=st.2[x.term.var.toNat]?.getD false:=⟨_,rfl⟩
  have hcase:0≤x.term.var∨(¬ 0≤x.term.var∧st.2[x.term.var.toNat]?=none)∨(¬ 0≤x.term.var∧st.2[x.term.var.toNat]?=some kb):=by
   by_cases hsp:0≤x.term.var
   ·exact .inl hsp
   ·right
    cases ho:st.2[x.term.var.toNat]? with
    | none=>exact .inl ⟨hsp,rfl⟩
    | some b=>rw [ho] at hkb;exact .inr ⟨hsp,by rw [hkb];rfl⟩
  rcases hcase with hc|hc|hc
  ·have Y:=wa Y (wa h4 (wa (aA h4) (wa (Eq.symm hx) (wa (aA hn2) (wa (aA hk2) (wa (aA ha2) (wa (Eq.symm hV) (wa @Slot.c.eq_1 (wa @cL.eq_1 (wa hl1 (wa hl2 (wa @p5 (wa @cB.eq_1 (wa hc ((aA (vlt hc)))))))))))))))))
   refine wv (h:=?_)
   repeat first|intro _|refine ⟨eI,?_⟩
   refine wq (fun h9=>?_) fun h9=>?_
   ·have hF:qW st x=true:=by simp only [qW,aL,decide_eq_true_eq,cV];exact ⟨hc,by simpa [aA (vlt hc)] using h9⟩
    unfold oI at hs2e
    rw [if_pos hF] at hs2e
    have hvl:x.term.var.toNat<st.1.length:=by omega
    have e1:s2.1.map cI=(st.1.map cI).set x.term.var.toNat (cI (nQ h m x - x.term.add)):=by rw [hs2e,cK]
    have e2:s2.2.map cB=(st.2.map cB).set x.term.var.toNat (cB true):=by rw [hs2e,cK]
    have ecl:D.clLL ((st.1.map cI).set x.term.var.toNat [D.int .i64 (nQ h m x - x.term.add)])=true:=by have:=yF s2.1;rw [e1] at this;exact this
    have Y:=wa Y (wa e1 (wa e2 (wa @dLI.eq_1 (wa @cI.eq_1 (wa (aA hvl) ecl)))))
    refine wp (h:=eR (oM x.term s2.1 (by rw [hs2.l1];exact hT) hs2.big) wr wl rfl ?_)
    refine wv (h:=?_)
    repeat first|intro _|refine ⟨eI,?_⟩
    refine wq (fun h12=>?_) fun h12=>?_
    ·have hR:=g5 (hSt.2 (by first|simpa using h12|simpa [hs2n hc.1] using h12|simpa [hs2e] using h12))
     exact wv (h:=hQ _ _ (by simp [go_sem,hR]))
    ·have hstep:=hSt.1 (by first|simpa using h12|simpa [hs2n hc.1] using h12|simpa [hs2e] using h12)
     exact wp (h:=wx hI0 (i+1) ⟨s2,wg,(by (simp [go_sem,Y])),wn,(by (simp [go_sem,Y])),wn,wj,(by exact hs2),(by exact hstep)⟩)
   ·have hF:¬ qW st x=true:=by simp only [qW,aL,decide_eq_true_eq,cV];rintro ⟨_,hk⟩;simp [aA (vlt hc)] at hk;simp [hk] at h9
    unfold oI at hs2e
    rw [if_neg hF] at hs2e
    have Y:=wa Y hs2e
    refine wv (h:=eR (oM x.term s2.1 (by rw [hs2.l1];exact hT) hs2.big) wr wl rfl ?_)
    refine d7 (fun h12=>?_) fun h12=>?_
    ·have hR:=g5 (hSt.2 (by first|simpa using h12|simpa [hs2n hc.1] using h12|simpa [hs2e] using h12))
     exact wv (h:=hQ _ _ (by simp [go_sem,hR]))
    ·have hstep:=hSt.1 (by first|simpa using h12|simpa [hs2n hc.1] using h12|simpa [hs2e] using h12)
     exact wp (h:=wx hI0 (i+1) ⟨s2,wg,(by (simp [go_sem,Y])),wn,(by (simp [go_sem,Y])),wn,wj,(by exact hs2),(by exact hstep)⟩)
  ·have Y:=wa Y (wa h4 (wa (aA h4) (wa (Eq.symm hx) (wa (aA hn2) (wa (aA hk2) (wa (aA ha2) (wa (Eq.symm hV) (wa @Slot.c.eq_1 (wa @cL.eq_1 (wa hl1 (wa hl2 (wa @p5 (wa @cB.eq_1 (wa hc.1 (wa hc.2 (hs2n hc.1))))))))))))))))
   refine wp (h:=eR (oM x.term s2.1 (by rw [hs2.l1];exact hT) hs2.big) wr wl rfl ?_)
   refine wv (h:=?_)
   repeat first|intro _|refine ⟨eI,?_⟩
   refine wq (fun h12=>?_) fun h12=>?_
   ·have hR:=g5 (hSt.2 (by first|simpa using h12|simpa [hs2n hc.1] using h12|simpa [hs2e] using h12))
    exact wv (h:=hQ _ _ (by simp [go_sem,hR]))
   ·have hstep:=hSt.1 (by first|simpa using h12|simpa [hs2n hc.1] using h12|simpa [hs2e] using h12)
    exact wp (h:=wx hI0 (i+1) ⟨s2,wg,(by (simp [go_sem,Y])),wn,(by (simp [go_sem,Y])),wn,wj,(by exact hs2),(by exact hstep)⟩)
  ·have Y:=wa Y (wa h4 (wa (aA h4) (wa (Eq.symm hx) (wa (aA hn2) (wa (aA hk2) (wa (aA ha2) (wa (Eq.symm hV) (wa @Slot.c.eq_1 (wa @cL.eq_1 (wa hl1 (wa hl2 (wa @p5 (wa @cB.eq_1 (wa hc.1 (wa hc.2 (hs2n hc.1))))))))))))))))
   refine wp (h:=eR (oM x.term s2.1 (by rw [hs2.l1];exact hT) hs2.big) wr wl rfl ?_)
   refine wv (h:=?_)
   repeat first|intro _|refine ⟨eI,?_⟩
   refine wq (fun h12=>?_) fun h12=>?_
   ·have hR:=g5 (hSt.2 (by first|simpa using h12|simpa [hs2n hc.1] using h12|simpa [hs2e] using h12))
    exact wv (h:=hQ _ _ (by simp [go_sem,hR]))
   ·have hstep:=hSt.1 (by first|simpa using h12|simpa [hs2n hc.1] using h12|simpa [hs2e] using h12)
    exact wp (h:=wx hI0 (i+1) ⟨s2,wg,(by (simp [go_sem,Y])),wn,(by (simp [go_sem,Y])),wn,wj,(by exact hs2),(by exact hstep)⟩)
 ·rw [aI (by omega)] at hsl
  have hR0:=uJ hsl
  have hl1:=hst.l1
  have Y:=wa Y hl1
  refine wv (h:=bG (fun k e H=>(e 3=.adr p.c∧e 4=.adr h.c∧e 5=.adr m.c∧e 8=.own 0 p.vars.toNat∧e 14=dI k)∧(H.get 0=some ⟨3,1,st.1.map cI,false⟩)∧(0<H.next)∧(k≤p.tests.length)∧((p.tests.take k).all (fun x=>En x st.1)=true)) (fun k=>p.tests.length - k) 0 ⟨wg,wn,wn,wi,(by rfl)⟩ fun I2 hI2 k e H hi2=>?_)
  obtain ⟨E2,g0_2,n0_2,hk,hall⟩:=hi2
  have Y:=wa Y (wa E2 (wa g0_2 (cG n0_2)))
  refine wv (h:=?_)
  repeat first|intro _|refine ⟨eI,?_⟩
  refine wq (fun h15=>?_) fun h15=>?_
  ·have Y:=wa Y (wa h15 (wa (aA h15) @Test.c.eq_1))
   refine wp (h:=eR (LC p.tests[k] st.1 (by rw [hst.l1];exact hO.test _ (aB h15)) hst.big) wr wl rfl ?_)
   refine wv (h:=?_)
   repeat first|intro _|refine ⟨eI,?_⟩
   refine wq (fun h17=>?_) fun h17=>?_
   ·have hR:fX p h m []=([],16):=by
     rw [hR0,if_neg]
     intro ha
     rw [cQ] at ha
     have:=ha _ (aB h15)
     simp [this] at h17
    exact wv (h:=hQ _ _ (by simp [go_sem,hR]))
   ·exact wp (h:=wx hI2 (k+1) ⟨wg,wn,wn,wj,(by (rw [aF h15,List.all_append,hall];simp;simpa using h17))⟩)
  ·rw [aI (by omega)] at hall
   rw [if_pos hall] at hR0
   exact wv (h:=hQ _ _ (by simp [go_sem,Y,hR0,dLI]))
def Cl (t:Types)(p:Pattern)(h:Host):Int:=if cJ t p≠0 then cJ t p else lH t h
theorem C5 (t:Types)(ht:t.ok)(p:Pattern)(h:Host):Pure Tryz.prog 146 [t.d,p.d,h.d] (dI (Cl t p h)):=by
 refine Tz.pK ⟨fun _=>false,fun _=>[]⟩ Tryz.func146 rfl (fun Q hQ=>?_)
 have Y:=wa @Host.d.eq_1 @Host.c.eq_1
 refine wv (h:=aC (rP t ht p) wl ?_)
 refine d7 (fun h2=>?_) fun h2=>?_
 ·exact wv (h:=hQ _ _ (by simp [go_sem,Cl,h2]))
 ·refine wv (h:=aC (wU t ht h) wl ?_)
  exact wv (h:=hQ _ _ (by simp [go_sem,Cl,h2,lH]))
theorem Lp (t:Types)(ht:t.ok)(p:Pattern)(h:Host)(m:Part):Pure Tryz.prog 167 [t.d,p.d,h.d,m.d] (.tup [dLI (jT t p h m).1,dI (jT t p h m).2]):=by
 refine Tz.pK ⟨fun _=>false,fun _=>[]⟩ Tryz.func167 rfl (fun Q hQ=>?_)
 have Y:=wa @Pattern.d.eq_1 (wa @Pattern.c.eq_1 (wa @Host.d.eq_1 @Host.c.eq_1))
 refine wv (h:=aC (C5 t ht p h) wl ?_)
 refine d7 (fun h2=>?_) fun h2=>?_
 ·have hS:jT t p h m=([],Cl t p h):=by
   unfold jT Cl
   unfold Cl at h2
   by_cases hp:cJ t p=0
   ·rw [if_neg (by omega)] at h2 ⊢
    rw [if_pos h2,if_neg (by omega)]
   ·rw [if_pos hp,if_pos hp]
  exact wv (h:=hQ _ _ (by simp [go_sem,hS]))
 ·have hp0:cJ t p=0:=by
   unfold Cl at h2
   refine bP fun hp=>?_
   rw [if_pos hp] at h2;exact hp h2
  have hh0:lH t h=0:=by unfold Cl at h2;rw [if_neg (by omega)] at h2;exact h2
  refine wv (h:=aC (wT t ht p.graph h.graph m false) wl ?_)
  refine d7 (fun h5=>?_) fun h5=>?_
  ·have hS:jT t p h m=([],m9 t p.graph h.graph m false):=by unfold jT;rw [if_neg (by omega),if_neg (by omega),if_pos h5]
   exact wv (h:=hQ _ _ (by simp [go_sem,hS]))
  ·have h5':m9 t p.graph h.graph m false=0:=by omega
   have hS:jT t p h m=fX p h m []:=by unfold jT;rw [if_neg (by omega),if_neg (by omega),if_neg (by omega)]
   refine wv (h:=aC (AM p h m (Vt (LK (.inr hp0)) (Ck hh0) (z2 (yM h5').2))) wl ?_)
   exact wv (h:=hQ _ _ (by simp [go_sem,hS]))
theorem Py (l:List Part):(Mu l).1.length≤5000:=by
 unfold Mu;split
 ·simp
 ·simp only;omega
theorem MX (t:Types)(p g:Graph)(inj:Bool):(oU t p g inj).1.length≤5000:=by
 unfold oU;split
 ·simp
 ·exact Py _
theorem Tt (t:Types)(p g:Graph)(q:Part)(inj:Bool):(tZ t p g q inj).1.length≤5000:=by
 unfold tZ;split
 ·simp
 ·split
  ·simp
  ·split
   ·simp
   ·split
    ·simp
    ·exact Py _
theorem Q7 {t:Types}{p g:Graph}{inj:Bool}{m:Part}(h:m∈(oU t p g inj).1):MOk t p g m:=by
 unfold oU at h
 split at h
 ·cases h
 ·unfold Mu at h
  split at h
  ·cases h
  ·exact MW (S:=⟨t,p,g,_,_,inj⟩) (cE h)
theorem G6 (t:Types)(ht:t.ok)(p:Pattern)(h:Host)(inj:Bool):Pure Tryz.prog 66 [t.d,p.d,h.d,.bool inj] (.tup [.list ((gY t p h inj).1.map Mat.c),dI (gY t p h inj).2]):=by
 refine Tz.pK ⟨fun t=>t==13,fun _=>[]⟩ Tryz.func66 rfl (fun Q hQ=>?_)
 have Y:=wa @Pattern.d.eq_1 (wa @Pattern.c.eq_1 (wa @Host.d.eq_1 @Host.c.eq_1))
 refine wv (h:=aC (C5 t ht p h) wl ?_)
 refine d7 (fun h2=>?_) fun h2=>?_
 ·have hS:gY t p h inj=([],Cl t p h):=by
   unfold gY Cl
   unfold Cl at h2
   by_cases hp:cJ t p=0
   ·rw [if_neg (by omega)] at h2 ⊢
    rw [if_pos h2,if_neg (by omega)]
   ·rw [if_pos hp,if_pos hp]
  exact wv (h:=hQ _ _ (by simp [go_sem,hS]))
 ·have hp0:cJ t p=0:=by
   unfold Cl at h2
   refine bP fun hp=>?_
   rw [if_pos hp] at h2;exact hp h2
  have hh0:lH t h=0:=by unfold Cl at h2;rw [if_neg (by omega)] at h2;exact h2
  have hLm0:∀ x∈(oU t p.graph h.graph inj).1,MOk t p.graph h.graph x:=fun x hx=>Q7 hx
  refine wv (h:=aC (Qc t ht p.graph h.graph inj) wl ?_)
  refine d7 (fun h5=>?_) fun h5=>?_
  ·have hS:gY t p h inj=([],(oU t p.graph h.graph inj).2):=by unfold gY;rw [if_neg (by omega),if_neg (by omega),if_pos h5]
   exact wv (h:=hQ _ _ (by simp [go_sem,hS]))
  ·have hS:gY t p h inj=(wF p h [] (oU t p.graph h.graph inj).1,0):=by unfold gY;rw [if_neg (by omega),if_neg (by omega),if_neg (by omega)]
   obtain ⟨L,hL⟩:∃ L,L=(oU t p.graph h.graph inj).1:=⟨_,rfl⟩
   have hL5a:=MX t p.graph h.graph inj
   rw [← hL] at hS hLm0 hL5a
   have hLm:=hLm0
   have Y:=wa Y (Eq.symm hL)
   refine wv (h:=bG (fun i e H=>∃ ms:List Mat,(e 4=.adr t.c∧e 5=.adr p.c∧e 6=.adr h.c∧e 3=.bool inj∧e 11=.list (L.map Part.c)∧e 13=.own 0 ms.length∧e 14=dI i)∧(H.get 0=some ⟨65,3,ms.map Mat.c,false⟩)∧(0<H.next)∧(i≤L.length)∧(ms=wF p h [] (L.take i))∧(ms.length≤i)∧(L.length≤5000)) (fun i=>L.length - i) 0 ⟨([]),wg,wn,wn,wi,(by rfl),(by (simp)),(by (exact hL5a))⟩ fun I0 hI0 i e H hi0=>?_)
   obtain ⟨ms,E0,g0_0,n0_0,hi,hms,hml,hL5⟩:=hi0
   have Y:=wa Y (wa E0 (wa g0_0 (cG n0_0)))
   refine pH (fun h9=>?_) fun h9=>?_
   ·obtain ⟨v,hv⟩:∃ v,v=fX p h L[i] []:=⟨_,rfl⟩
    obtain ⟨ms2,hms2⟩:∃ y,y=ms++if v.2=0 then [(⟨L[i],v.1⟩:Mat)] else []:=⟨_,rfl⟩
    have Y:=wa Y (wa h9 (wa (aA h9) @Part.c.eq_1))
    refine wp (h:=aM ((by have hq:=AM p h L[i] (Vt (LK (.inr hp0)) (Ck hh0) (hLm _ (aB h9)));rw [← hv] at hq;unfold Pattern.d Pattern.c Host.d Host.c Part.d Part.c dLI dI at hq;exact hq)) wl ?_)
    refine pH (fun h12=>?_) fun h12=>?_
    ·have hm3:ms2=ms++[⟨L[i],v.1⟩]:=by rw [hms2,if_pos (by simpa using h12)]
     have Y:=wa Y (wa hm3 @Mat.c.eq_1)
     exact wp (h:=wx hI0 (i+1) ⟨ms2,wg,wn,wn,wj,(by (rw [aF h9,uH,← hms,← hv];exact hms2)),(by (rw [hms2];split<;>simp<;>omega)),(by exact hL5)⟩)
    ·have hm3:ms2=ms:=by rw [hms2,if_neg (by simpa using h12),fE]
     have Y:=wa Y hm3
     exact wp (h:=wx hI0 (i+1) ⟨ms2,wg,wn,wn,wj,(by (rw [aF h9,uH,← hms,← hv];exact hms2)),(by (rw [hms2];split<;>simp<;>omega)),(by exact hL5)⟩)
   ·rw [aI (by omega)] at hms
    exact wv (h:=hQ _ _ (by simp [go_sem,Y,hS,← hms]))
end Go.Abs
end
