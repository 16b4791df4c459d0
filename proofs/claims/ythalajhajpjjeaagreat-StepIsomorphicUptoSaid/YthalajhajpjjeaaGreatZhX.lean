/- Plain law: the conditions of drafted rules in an isomorphic  -/
import Derived.Test.YthalajhajpjjeaaGreatZhW
import Derived.Test.YthalajhajpjjeaaGreatZhF
import Derived.Test.YthalajhajpjjeaaGreatZhA
import Derived.Test.YthalajhajpjjeaaGreatZhP
import Derived.Test.YthalajhajpjjeaaGreatZhU
import Derived.Test.YthalajhajpjjeaaGreatRows
import Derived.OpenShut
set_option linter.unusedVariables false
set_option linter.unusedSimpArgs false
section
set_option maxRecDepth 100000
set_option maxHeartbeats 4000000
open Go Go.Proofs
namespace Go.Abs
def tU (n:Nat)(at_ im:List Int)(k:Nat):List Int:=(List.range k).foldl (fun acc i=>acc.set (at_[i]?.getD 0).toNat (im[i]?.getD 0)) (List.replicate n (-1))
theorem sY (n:Nat)(at_ im:List Int)(k:Nat):tU n at_ im (k+1)=(tU n at_ im k).set (at_[k]?.getD 0).toNat (im[k]?.getD 0):=by simp [tU,bK]
theorem IL {n:Nat}{at_ im l:List Int}(hp:∀ x∈im,0≤x):∀ k,k≤im.length→tU n at_ (im.map (iA l)) k=(tU n at_ im k).map (Si l)
 | 0,_=>by simp [tU,Si]
 | k+1,hk=>by
  have h1:k<im.length:=by omega
  have h2:Si l (im[k]?.getD 0)=iA l (im[k]?.getD 0):=by
   unfold Si
   rw [aA h1,Option.getD_some,if_neg (by have:=hp _ (aC h1);omega)]
  rw [sY,sY,IL hp k (by omega),dU,zR h1,h2]
theorem Gg {n:Nat}{at_ im:List Int}:∀ k,k≤im.length→∀ x∈tU n at_ im k,x = -1∨x∈im
 | 0,_,x,hx=>by simp [tU] at hx;exact .inl hx.2
 | k+1,hk,x,hx=>by
  rw [sY] at hx
  rcases gI hx with h|h
  ·exact Gg k (by omega) x h
  ·rw [aA (by omega:k<im.length),Option.getD_some] at h
   exact .inr (h ▸ aC _)
theorem SO {n:Nat}{at_ im l:List Int}(hl:at_.length≤im.length)(hp:∀ x∈im,0≤x):lV n at_ (im.map (iA l))=(lV n at_ im).map (Si l):=IL hp _ hl
theorem Ri {n:Nat}{at_ im:List Int}(hl:at_.length≤im.length):∀ x∈lV n at_ im,x = -1∨x∈im:=Gg _ hl
theorem Ge {n N:Nat}{at_ im:List Int}(hl:at_.length≤im.length)(hr:∀ x∈im,0≤x∧x<N)(i:Nat) : -1≤(lV n at_ im)[i]?.getD (-1)∧(lV n at_ im)[i]?.getD (-1)<N:=by
 by_cases h:i<(lV n at_ im).length
 ·rw [aA h,Option.getD_some]
  rcases Ri hl _ (aC h) with e|e
  ·omega
  ·have:=hr _ e;omega
 ·rw [bE (by omega),Option.getD_none];omega
theorem IK {n:Nat}{at_ im l:List Int}(hl:at_.length≤im.length)(hp:∀ x∈im,0≤x)(i:Nat):(lV n at_ (im.map (iA l)))[i]?.getD (-1)=Si l ((lV n at_ im)[i]?.getD (-1)):=by
 rw [SO hl hp,aH]
 by_cases h:i<(lV n at_ im).length
 ·rw [aA h];rfl
 ·rw [bE (by omega)];simp [Si]
theorem Gd {n N:Nat}{at_ im:List Int}(hl:at_.length≤im.length)(hr:∀ x∈im,0≤x∧x<N):qN (lV n at_ im) N=0:=by
 unfold qN
 refine iJ _ _ fun j _ hj=>?_
 have hj':j<(lV n at_ im).length:=by omega
 have h:=Ge (n:=n) hl hr j
 rw [aA hj',Option.getD_some] at h
 unfold IP
 rw [aA hj',Option.getD_some,if_neg (by omega)]
theorem Gf (n:Nat)(at_ im:List Int):(lV n at_ im).length=n:=by
 have:∀ k,(tU n at_ im k).length=n:=fun k=>by
  induction k with
  | zero=>simp [tU]
  | succ k ih=>rw [sY,c7,ih]
 exact this _
theorem HIso.ext {t:Types}{a b:Host}{s:Part}(I:HIso a b s)(ha:HostOk t a)(hb:HostOk t b){q:Pattern}(hq:dM t q.graph a.graph=0){c m:Part}(l1:c.nodes.length≤m.nodes.length)(l2:c.edges.length≤m.edges.length)
  (hm:∀ x∈m.nodes,0≤x∧x<a.graph.nodes.length) (he:∀ x∈m.edges,0≤x∧x<a.graph.edges.length) (inj:Bool) :
  (mZ t q.graph b.graph (eO c q (imP s m)) inj).2=(mZ t q.graph a.graph (eO c q m) inj).2∧((mZ t q.graph a.graph (eO c q m) inj).1.map (imP s)).Perm (mZ t q.graph b.graph (eO c q (imP s m)) inj).1:=by
 have k1:c.nodes.length≤(imP s m).nodes.length:=by show _≤(m.nodes.map _).length;rw [aS];exact l1
 have k2:c.edges.length≤(imP s m).edges.length:=by show _≤(m.edges.map _).length;rw [aS];exact l2
 have hm':∀ x∈(imP s m).nodes,0≤x∧x<b.graph.nodes.length:=fun x hx=>by
  obtain ⟨y,hy,rfl⟩:=aQ.1 hx;exact I.inN (hm y hy)
 have he':∀ x∈(imP s m).edges,0≤x∧x<b.graph.edges.length:=fun x hx=>by
  obtain ⟨y,hy,rfl⟩:=aQ.1 hx;exact I.inE (he y hy)
 have Z:SIso ⟨t,q.graph,a.graph,(eO c q m).nodes,(eO c q m).edges,inj⟩ ⟨t,q.graph,b.graph,(eO c q (imP s m)).nodes,(eO c q (imP s m)).edges,inj⟩ a b s :=
  ⟨I,ha.gg,(o8 hq).gp,rfl,rfl,rfl,rfl,rfl,fun i=>IK l1 (fun x hx=>(hm x hx).1) i,fun i=>IK l2 (fun x hx=>(he x hx).1) i,fun i=>(Ge l1 hm i).2,fun i=>(Ge l2 he i).2⟩
 have hC:=RY Z.allM
 have e:∀ {g:Graph} {w:Part},dM t q.graph g=0→c.nodes.length≤w.nodes.length→c.edges.length≤w.edges.length→(∀ x∈w.nodes,0≤x∧x<g.nodes.length)→(∀ x∈w.edges,0≤x∧x<g.edges.length)→mZ t q.graph g (eO c q w) inj=xM (allM ⟨t,q.graph,g,(eO c q w).nodes,(eO c q w).edges,inj⟩):=fun {g w} h1 h2 h3 h4 h5=>by
  unfold mZ
  rw [if_neg (by rw [h1];simp),if_neg (by unfold eO;simp only;rw [Gf,Gf];simp),if_neg (by rw [show qN (eO c q w).nodes g.nodes.length=0 from Gd h2 h4];simp),if_neg (by rw [show qN (eO c q w).edges g.edges.length=0 from Gd h3 h5];simp)]
 rw [e hq l1 l2 hm he,e (Cc hq hb) k1 k2 hm' he']
 exact hC
theorem Tn (t:Types)(h:Host)(inj:Bool)(l:List Mat):(Wx (l.map fun x=>(x,GN [oU t h inj trueC] x))).2=if l=[] then 10 else 0:=by
 cases l with
 | nil=>rfl
 | cons x l =>
  have e:GN [oU t h inj trueC] x=(lE,0):=by
   show oU t h inj trueC x=_
   rw [zG];rfl
  rw [gS,e];rfl
theorem Sl (t:Types)(h:Host)(inj:Bool)(m:Mat):Fg t h inj trueC m=0:=by
 unfold Fg;rw [zG];rfl
def RV (X:List Mat × Int):Int:=if X.2≠0 then X.2 else if X.1=[] then 10 else 0
theorem Sn (t:Types)(h:Host)(inj:Bool)(p:Pattern)(g:Graph)(m:Mat):Fg t h inj (forbC p g) m=Ro (RV (t6 t ⟨e9 p.graph.nodes.length,e9 p.graph.edges.length⟩ ⟨g,[],p.vars,[]⟩ h m inj)):=by
 have e:(oU t h inj (.mk 5 [trueC] ⟨e9 p.graph.nodes.length,e9 p.graph.edges.length⟩ ⟨g,[],p.vars,[]⟩) m).2=RV (t6 t ⟨e9 p.graph.nodes.length,e9 p.graph.edges.length⟩ ⟨g,[],p.vars,[]⟩ h m inj):=by
  rw [zG]
  simp only [Cond.kind,Cond.kids,Cond.map,Cond.pattern,gS,lO]
  rw [if_neg (by decide),if_neg (by decide),if_neg (by decide),if_pos trivial]
  unfold RV
  split
  ·rfl
  ·exact Tn t h inj _
 unfold Fg forbC
 rw [zG]
 simp only [Cond.kind,Cond.kids,gS,lO]
 rw [if_pos trivial]
 show Ro (oU t h inj (.mk 5 [trueC] _ _) m).2=_
 rw [e]
theorem NK (g:Graph)(v:Int)(h h':Host)(x x':Part)(vs:List Int):fB ⟨g,[],v,[]⟩ h x vs=fB ⟨g,[],v,[]⟩ h' x' vs:=rfl
theorem QJ {q:Pattern}{h:Host}{vs:List Int}{l:List Part}:rL q h vs l=[]↔∀ x∈l,(fB q h x vs).2≠0:=by
 unfold rL
 rw [List.filterMap_eq_nil_iff]
 constructor
 ·intro hh x hx h0
  have:=hh x hx
  rw [if_pos h0] at this;cases this
 ·intro hh x hx
  rw [if_neg (hh x hx)]
def Nr (t:Types)(r:Rule):Prop:=r.cond=trueC∨∃ g,r.cond=forbC r.left g∧graphF g=0∧dP t g=true
theorem Ph {t:Types}{p:Graph}{h:Host}(hp:graphF p=0)(ht:dP t p=true)(H:HostOk t h):dM t p h.graph=0:=by
 unfold dM
 rw [if_neg (by rw [H.vf];simp),if_neg (by rw [hp];simp),if_neg (by rw [H.gg];simp),oV hp,ht,GL H];rfl
theorem HIso.wit {t:Types}{a b:Host}{s:Part}(I:HIso a b s)(ha:HostOk t a)(hb:HostOk t b){r:Rule}(hd:Nr t r){m:Mat}(M:MOk t r.left.graph a.graph m.m)(inj:Bool)(h:Fg t a inj r.cond m=0):Fg t b inj r.cond ⟨imP s m.m,m.vars⟩=0:=by
 rcases hd with hd|⟨g,hd,hg,ht⟩
 ·rw [hd,Sl]
 ·rw [hd,Sn] at h ⊢
  have hx:RV (t6 t ⟨e9 r.left.graph.nodes.length,e9 r.left.graph.edges.length⟩ ⟨g,[],r.left.vars,[]⟩ a m inj)=10:=by
   unfold Ro at h
   split at h
   ·cases h
   ·split at h
    ·assumption
    ·contradiction
  have hE:=I.ext (q:=⟨g,[],r.left.vars,[]⟩) (c:=⟨e9 r.left.graph.nodes.length,e9 r.left.graph.edges.length⟩) (m:=m.m) ha hb (Ph hg ht ha) (by rw [gM,M.len];omega) (by rw [gM,M.elen];omega) (fun x hx=>by
   obtain ⟨i,hi,rfl⟩:=aK hx;exact (M.img i hi (by have:=M.len;omega)).1) (fun x hx=>by obtain ⟨i,hi,rfl⟩:=aK hx;exact M.eimg i hi) inj
  obtain ⟨E1,E2⟩:=hE
  obtain ⟨C,hC⟩:∃ C,C=(⟨e9 r.left.graph.nodes.length,e9 r.left.graph.edges.length⟩:Part):=⟨_,rfl⟩
  obtain ⟨Q,hQ⟩:∃ Q,Q=(⟨g,[],r.left.vars,[]⟩:Pattern):=⟨_,rfl⟩
  rw [← hC,← hQ] at E1 E2 hx ⊢
  have:RV (t6 t C Q b ⟨imP s m.m,m.vars⟩ inj)=10:=by
   by_cases h2:(mZ t Q.graph a.graph (eO C Q m.m) inj).2≠0
   ·have ea:t6 t C Q a m inj=([],(mZ t Q.graph a.graph (eO C Q m.m) inj).2):=if_pos h2
    have eb:t6 t C Q b ⟨imP s m.m,m.vars⟩ inj=([],(mZ t Q.graph b.graph (eO C Q (imP s m.m)) inj).2):=if_pos (by rw [E1];exact h2)
    rw [eb,E1];rw [ea] at hx;exact hx
   ·have ea:t6 t C Q a m inj=(rL Q a m.vars (mZ t Q.graph a.graph (eO C Q m.m) inj).1,0):=if_neg h2
    have eb:t6 t C Q b ⟨imP s m.m,m.vars⟩ inj=(rL Q b m.vars (mZ t Q.graph b.graph (eO C Q (imP s m.m)) inj).1,0):=if_neg (by rw [E1];exact h2)
    rw [ea] at hx
    rw [eb]
    unfold RV at hx ⊢
    rw [if_neg (by simp)] at hx ⊢
    split at hx
    ·rename_i h3
     rw [if_pos]
     simp only at h3 ⊢
     rw [QJ] at h3 ⊢
     intro y hy
     obtain ⟨x,hx,rfl⟩:=aQ.1 (E2.symm.subset hy)
     rw [hQ,NK g r.left.vars b a (imP s x) x,← hQ]
     exact h3 x hx
    ·cases hx
  rw [this];rfl
theorem M7 {t:Types}{h:Host}{inj:Bool}{c:Cond}{m:Mat}:((qR t h inj c m).2=0∧(qR t h inj c m).1=true)↔Fg t h inj c m=0:=by
 unfold qR
 constructor
 ·intro hh
  split at hh
  ·exact absurd hh.2 (by simp)
  ·exact hh.1
 ·intro hh
  rw [hh,if_neg (by decide)];simp
theorem HIso.poss {t:Types}{a b:Host}{s:Part}(I:HIso a b s)(ha:fA t a=0)(hb:fA t b=0){r:Rule}(hR:RuleV t r)(hd:Nr t r){m:Mat}(h:pX t r a m=0):pX t r b ⟨imP s m.m,m.vars⟩=0:=by
 have A:=Go.Abs.hostOk ha
 have B:=Go.Abs.hostOk hb
 unfold pX at h
 split at h
 ·exact absurd h (by assumption)
 ·rename_i h1
  have hp:vV t r a m=0:=by simpa using h1
  split at h
  ·exact absurd h (by assumption)
  ·rename_i h2
   split at h
   ·cases h
   ·rename_i h3
    have S:=JW hR A hp
    have W:=M7.2 (I.wit A B hd S.hm r.inj (M7.1 ⟨by simpa using h2,by simpa using h3⟩))
    have hp':vV t r b ⟨imP s m.m,m.vars⟩=0:=by
     unfold vV at hp ⊢
     split at hp
     ·cases hp
     ·rename_i k1
      split at hp
      ·exact absurd hp (by assumption)
      ·rename_i k2
       split at hp
       ·cases hp
       ·rename_i k3
        have hs:eL t r.left b (imP s m.m)=(m.vars,0):=I.solve ha hb hR.pl S.hm (Prod.ext (by simpa using k3) (by simpa using k2))
        have hN:∀ x∈m.m.nodes,0≤x∧x<a.graph.nodes.length:=fun x hx=>by
         obtain ⟨i,hi,rfl⟩:=aK hx;exact (S.hm.img i hi (by have:=S.hm.len;omega)).1
        simp only
        rw [if_neg (by rw [I.checkE A.gg B (by simpa using k1)];simp),hs,if_neg (by simp),if_neg (by simp),I.inst hN]
        exact I.comp B.gg hp
    unfold pX
    rw [if_neg (by rw [hp'];simp),if_neg (by rw [W.1];simp),if_neg (by rw [W.2];simp)]
structure Mv (keep into mm mm' s:List Int) (nL nR nH:Nat):Prop where
 S:Srt keep into mm nL nR nH
 S':Srt keep into mm' nL nR nH
 sl:s.length=nH
 sr:∀ x∈s,0≤x∧x<nH
 sd:s.Nodup
 e:mm'=mm.map (iA s)
def Qh (keep into mm mm' s:List Int)(nR nH:Nat):List Int :=
 (iL keep mm nH).map (fun x=>iA (kP keep mm' nH) (iA s x))++(List.range (bF into nR).length).map fun (f:Nat)=>(((iL keep mm' nH).length+f:Nat):Int)
section
variable {keep into mm mm' s:List Int} {nL nR nH:Nat}
theorem Mv.at_ (M:Mv keep into mm mm' s nL nR nH){x:Int}(h:0≤x∧x<nH):0≤iA s x∧iA s x<nH:=M.sr _ (fG h.1 (by rw [M.sl];exact h.2))
theorem Mv.inj (M:Mv keep into mm mm' s nL nR nH){x y:Int}(hx:0≤x∧x<nH)(hy:0≤y∧y<nH)(h:iA s x=iA s y):x=y:=by
 have hl:=M.sl
 have:=qG M.sd (i:=x.toNat) (j:=y.toNat) (by omega) (by omega) (by rw [show ((x.toNat:Nat):Int)=x by omega,show ((y.toNat:Nat):Int)=y by omega];exact h)
 omega
theorem Mv.onto (M:Mv keep into mm mm' s nL nR nH){v:Int}(h:0≤v∧v<nH):∃ x:Int,(0≤x∧x<nH)∧iA s x=v:=by
 obtain ⟨i,hi,he⟩:=w5 (o3 M.sl M.sr M.sd h)
 have:=M.sl
 exact ⟨i,by omega,he⟩
theorem Mv.d (M:Mv keep into mm mm' s nL nR nH){x:Int}(h:0≤x∧x<nH):iA s x∈iL keep mm' nH↔x∈iL keep mm nH:=by
 rw [M.S'.d_iff,M.S.d_iff]
 have hl:=M.S.ml
 have key:∀ k:Int,0≤k→k<nL→(iA mm' k=iA s x↔iA mm k=x):=fun k h0 h1=>by
  rw [M.e,yN _ h0 (by omega)]
  exact ⟨fun e=>M.inj (M.S.mr _ (fG h0 (by omega))) h e,fun e=>by rw [e]⟩
 exact ⟨fun ⟨_,h2⟩=>⟨h,fun k a b c d=>h2 k a b c ((key k a b).2 d)⟩,fun ⟨_,h2⟩=>⟨M.at_ h,fun k a b c d=>h2 k a b c ((key k a b).1 d)⟩⟩
theorem Mv.drange (M:Mv keep into mm mm' s nL nR nH){x:Int}(h:x∈iL keep mm nH):0≤x∧x<nH:=(M.S.d_iff.1 h).1
theorem Mv.len (M:Mv keep into mm mm' s nL nR nH):(iL keep mm' nH).length=(iL keep mm nH).length:=by
 have hp:((iL keep mm nH).map (iA s)).Perm (iL keep mm' nH):=by
  refine (CK ((Gn (fun x hx=>M.drange hx) (fun x y h1 h2 h=>M.inj h1 h2 h)).2 M.S.asc) M.S'.asc).2 fun y=>?_
  rw [aQ]
  constructor
  ·rintro ⟨x,hx,rfl⟩
   exact (M.d (M.drange hx)).2 hx
  ·intro hy
   obtain ⟨x,hx,rfl⟩:=M.onto (M.S'.d_iff.1 hy).1
   exact ⟨x,(M.d hx).1 hy,rfl⟩
 have:=hp.length_eq
 rw [aS] at this
 omega
theorem Mv.mlen (M:Mv keep into mm mm' s nL nR nH):(Qh keep into mm mm' s nR nH).length=(iL keep mm nH).length+(bF into nR).length:=by simp [Qh]
theorem Mv.kept (M:Mv keep into mm mm' s nL nR nH){x:Int}(hx:x∈iL keep mm nH):iA (Qh keep into mm mm' s nR nH) (iA (kP keep mm nH) x)=iA (kP keep mm' nH) (iA s x):=by
 obtain ⟨p,h1,h2,h3⟩:=M.S.t_in hx
 rw [h1]
 rw [lH h2] at h3
 unfold iA Qh
 rw [Int.toNat_natCast,aT (by simpa using h2),aH,aA h2,h3]
 rfl
theorem Mv.new (M:Mv keep into mm mm' s nL nR nH){f:Nat}(hf:f<(bF into nR).length):iA (Qh keep into mm mm' s nR nH) (((iL keep mm nH).length+f:Nat):Int)=(((iL keep mm' nH).length+f:Nat):Int):=by
 unfold iA Qh
 rw [Int.toNat_natCast,bB (by simp),aS,nS,aH,dZ hf]
 rfl
theorem Mv.cases (M:Mv keep into mm mm' s nL nR nH){p:Int}(h0:0≤p)(h1:p<((iL keep mm nH).length+(bF into nR).length:Nat)):(∃ x∈iL keep mm nH,iA (kP keep mm nH) x=p)∨∃ f:Nat,f<(bF into nR).length∧p=(((iL keep mm nH).length+f:Nat):Int):=by
 by_cases h:p.toNat<(iL keep mm nH).length
 ·obtain ⟨a,b⟩:=M.S.t_at h
  exact .inl ⟨_,a,by rw [b];omega⟩
 ·exact .inr ⟨p.toNat - (iL keep mm nH).length,by omega,by omega⟩
theorem Mv.c (M:Mv keep into mm mm' s nL nR nH){j:Int}(h:0≤j∧j<nR):iA (Qh keep into mm mm' s nR nH) (iA (wI keep into mm nR nH) j)=iA (wI keep into mm' nR nH) j:=by
 by_cases hj:j∈into
 ·obtain ⟨q,hq,rfl⟩:=w5 hj
  have hk:=M.S.kl
  have hl:=M.S.ml
  have hm:iA keep q∈keep:=fG (by omega) (by omega)
  have hr:=M.S.kr _ hm
  rw [M.S.c_kept (by omega),M.S'.c_kept (by omega),M.kept (M.S.kept_in hm),M.e,yN _ hr.1 (by omega)]
 ·obtain ⟨f,f1,f2,f3⟩:=M.S.c_fresh h hj
  obtain ⟨g,g1,g2,g3⟩:=M.S'.c_fresh h hj
  have:f=g:=qG (nM (lX _ _)) f1 g1 (by rw [f2,g2])
  subst this
  rw [f3,g3,M.new f1]
theorem Mv.tin (M:Mv keep into mm mm' s nL nR nH){x:Int}(hx:x∈iL keep mm nH):iA s x∈iL keep mm' nH:=(M.d (M.drange hx)).2 hx
theorem Mv.mem (M:Mv keep into mm mm' s nL nR nH){v:Int}(h:v∈Qh keep into mm mm' s nR nH):(∃ x∈iL keep mm nH,v=iA (kP keep mm' nH) (iA s x))∨∃ f:Nat,f<(bF into nR).length∧v=(((iL keep mm' nH).length+f:Nat):Int):=by
 unfold Qh at h
 rw [aV,aQ,aQ] at h
 rcases h with ⟨x,hx,rfl⟩|⟨f,hf,rfl⟩
 ·exact .inl ⟨x,hx,rfl⟩
 ·exact .inr ⟨f,aR.1 hf,rfl⟩
theorem Mv.range (M:Mv keep into mm mm' s nL nR nH):∀ v∈Qh keep into mm mm' s nR nH,0≤v∧v<((iL keep mm' nH).length+(bF into nR).length:Nat):=fun v hv=>by
 rcases M.mem hv with ⟨x,hx,rfl⟩|⟨f,hf,rfl⟩
 ·obtain ⟨p,h1,h2,_⟩:=M.S'.t_in (M.tin hx)
  rw [h1];omega
 ·omega
theorem Mv.nodup (M:Mv keep into mm mm' s nL nR nH):(Qh keep into mm mm' s nR nH).Nodup:=by
 unfold Qh
 rw [cY,List.pairwise_append,qB,qB]
 refine ⟨?_,?_,?_⟩
 ·refine List.Pairwise.imp_of_mem ?_ (cY.1 M.S.asc)
  intro x y hx hy hne he
  exact hne (M.inj (M.drange hx) (M.drange hy) (M.S'.t_inj (M.tin hx) (M.tin hy) he))
 ·refine (cY.1 (List.nodup_range (n:=(bF into nR).length))).imp ?_
  intro x y hne he
  exact hne (by omega)
 ·intro u hu v hv
  obtain ⟨x,hx,rfl⟩:=aQ.1 hu
  obtain ⟨f,hf,rfl⟩:=aQ.1 hv
  obtain ⟨p,h1,h2,_⟩:=M.S'.t_in (M.tin hx)
  rw [h1];omega
end
/-! ### a step in both hosts -/
section
variable {t:Types} {r:Rule} {h:Host} {m:Mat}
theorem StepIn.oldN (S:StepIn t r h m){x:Int}(hx:x∈iL r.keep.nodes m.m.nodes h.graph.nodes.length):gN (bI t r h m).graph (iA (kP r.keep.nodes m.m.nodes h.graph.nodes.length) x)=gN h.graph x ∧
  (bI t r h m).values[(iA (kP r.keep.nodes m.m.nodes h.graph.nodes.length) x).toNat]?.getD []=h.values[x.toNat]?.getD []:=by
 obtain ⟨p,h1,h2,h3⟩:=S.srtN.t_in hx
 have hp:p<(bY r h m).nodes.length:=by rw [S.restN];exact h2
 have h4:(bY r h m).nodes[p]=x:=by rw [← lH hp,S.restN];exact h3
 rw [h1]
 constructor
 ·unfold gN
  rw [Int.toNat_natCast,S.bareN,aT (by simpa using hp),aH,aA hp,h4];rfl
 ·rw [Int.toNat_natCast,JC,aT (by simpa using hp),aH,aA hp,h4];rfl
theorem StepIn.oldE (S:StepIn t r h m){x:Int}(hx:x∈iL r.keep.edges m.m.edges h.graph.edges.length):eA (bI t r h m).graph (iA (kP r.keep.edges m.m.edges h.graph.edges.length) x) =
  ⟨(eA h.graph x).type,iA (kP r.keep.nodes m.m.nodes h.graph.nodes.length) (eA h.graph x).from_,iA (kP r.keep.nodes m.m.nodes h.graph.nodes.length) (eA h.graph x).to_⟩:=by
 obtain ⟨p,h1,h2,h3⟩:=S.srtE.t_in hx
 have hp:p<(bY r h m).edges.length:=by rw [S.restE];exact h2
 have h4:(bY r h m).edges[p]=x:=by rw [← lH hp,S.restE];exact h3
 have e:eA (bI t r h m).graph (p:Int)=gEd h.graph (bY r h m) x:=by
  unfold eA
  rw [Int.toNat_natCast,S.bareE,aT (by simpa using hp),aH,aA hp,h4];rfl
 rw [h1,e,KF]
 obtain ⟨s1,s2⟩:=pT S.sub (k:=x) (by rw [S.restE];exact hx)
 have key:∀ v:Int,v∈(bY r h m).nodes→iA (kP r.keep.nodes m.m.nodes h.graph.nodes.length) v=(pY (bY r h m).nodes v:Int):=fun v hv=>by
  rw [S.srtN.t_get (S.nin v hv),← S.restN,Ai S.nasc,if_pos ((cQ _ _).2 hv)]
 rw [key _ s1,key _ s2]
theorem StepIn.endsE (S:StepIn t r h m){x:Int}(hx:x∈iL r.keep.edges m.m.edges h.graph.edges.length):(eA h.graph x).from_∈iL r.keep.nodes m.m.nodes h.graph.nodes.length∧(eA h.graph x).to_∈iL r.keep.nodes m.m.nodes h.graph.nodes.length:=by
 have:=pT S.sub (k:=x) (by rw [S.restE];exact hx)
 rwa [S.restN] at this
end
section
variable {t:Types} {r:Rule} {a b:Host} {m:Mat} {s:Part}
def imM (s:Part)(m:Mat):Mat:=⟨imP s m.m,m.vars⟩
def qJ (r:Rule)(a:Host)(s:Part)(m:Mat):Part :=
 ⟨Qh r.keep.nodes r.into.nodes m.m.nodes (m.m.nodes.map (iA s.nodes)) s.nodes r.right.graph.nodes.length a.graph.nodes.length,
  Qh r.keep.edges r.into.edges m.m.edges (m.m.edges.map (iA s.edges)) s.edges r.right.graph.edges.length a.graph.edges.length⟩
structure Two (t:Types) (r:Rule) (a b:Host) (s:Part) (m:Mat):Prop where
 I:HIso a b s
 S:StepIn t r a m
 S':StepIn t r b (imM s m)
theorem Two.mvN (T:Two t r a b s m):Mv r.keep.nodes r.into.nodes m.m.nodes (m.m.nodes.map (iA s.nodes)) s.nodes r.left.graph.nodes.length r.right.graph.nodes.length a.graph.nodes.length :=
 ⟨T.S.srtN,by have:=T.S'.srtN;rw [← T.I.nn] at this;exact this,T.I.nl,by have:=T.I.ni;rw [← T.I.nn] at this;exact this,T.I.nd,rfl⟩
theorem Two.mvE (T:Two t r a b s m):Mv r.keep.edges r.into.edges m.m.edges (m.m.edges.map (iA s.edges)) s.edges r.left.graph.edges.length r.right.graph.edges.length a.graph.edges.length :=
 ⟨T.S.srtE,by have:=T.S'.srtE;rw [← T.I.en] at this;exact this,T.I.el,by have:=T.I.ei;rw [← T.I.en] at this;exact this,T.I.ed,rfl⟩
theorem Two.sizeN (T:Two t r a b s m):(bI t r b (imM s m)).graph.nodes.length=(bI t r a m).graph.nodes.length:=by
 have h1:(bI t r a m).graph.nodes.length=_:=T.S.sizeN
 have h2:(bI t r b (imM s m)).graph.nodes.length=_:=T.S'.sizeN
 rw [h1,h2,← T.I.nn,← T.mvN.len];rfl
theorem Two.sizeE (T:Two t r a b s m):(bI t r b (imM s m)).graph.edges.length=(bI t r a m).graph.edges.length:=by
 have h1:(bI t r a m).graph.edges.length=_:=T.S.sizeE
 have h2:(bI t r b (imM s m)).graph.edges.length=_:=T.S'.sizeE
 rw [h1,h2,← T.I.en,← T.mvE.len];rfl
theorem Two.freshN (T:Two t r a b s m):r.freshN=bF r.into.nodes r.right.graph.nodes.length:=rfl
theorem Two.node (T:Two t r a b s m){p:Int}(h0:0≤p)(h1:p<(bI t r a m).graph.nodes.length):gN (bI t r a m).graph p=gN (bI t r b (imM s m)).graph (iA (qJ r a s m).nodes p) ∧
  (bI t r a m).values[p.toNat]?.getD []=(bI t r b (imM s m)).values[(iA (qJ r a s m).nodes p).toNat]?.getD []:=by
 have M:=T.mvN
 have hz:(bI t r a m).graph.nodes.length=_:=T.S.sizeN
 rw [hz] at h1
 rcases M.cases h0 h1 with ⟨x,hx,rfl⟩|⟨f,hf,rfl⟩
 ·have e1:=T.S.oldN hx
  have hr:=M.drange hx
  have e2:=T.S'.oldN (x:=iA s.nodes x) (by rw [← T.I.nn];exact M.tin hx)
  rw [← T.I.nn] at e2
  have e3:iA (qJ r a s m).nodes (iA (kP r.keep.nodes m.m.nodes a.graph.nodes.length) x)=_:=M.kept hx
  rw [e1.1,e1.2,e3]
  exact ⟨by rw [T.I.ty x hr.1 hr.2];exact e2.1.symm,by rw [T.I.va x hr.1 hr.2];exact e2.2.symm⟩
 ·have e1:=T.S.newN (f:=f) hf
  have e2:=T.S'.newN (f:=f) hf
  rw [T.S.restN] at e1
  rw [T.S'.restN,← T.I.nn] at e2
  have e3:iA (qJ r a s m).nodes (((iL r.keep.nodes m.m.nodes a.graph.nodes.length).length+f:Nat):Int)=_:=M.new hf
  rw [e1.1,e3,Int.toNat_natCast,Int.toNat_natCast,e1.2]
  exact ⟨e2.1.symm,e2.2.symm⟩
theorem Two.cN (T:Two t r a b s m){j:Int}(h:0≤j∧j<r.right.graph.nodes.length):iA (qJ r a s m).nodes (iA (dO r a m).nodes j)=iA (dO r b (imM s m)).nodes j:=by
 rw [T.S.coN,T.S'.coN,← T.I.nn]
 exact T.mvN.c h
theorem Two.edge (T:Two t r a b s m){p:Int}(h0:0≤p)(h1:p<(bI t r a m).graph.edges.length):eA (bI t r b (imM s m)).graph (iA (qJ r a s m).edges p) =
  ⟨(eA (bI t r a m).graph p).type,iA (qJ r a s m).nodes (eA (bI t r a m).graph p).from_,iA (qJ r a s m).nodes (eA (bI t r a m).graph p).to_⟩:=by
 have M:=T.mvE
 have N:=T.mvN
 have hz:(bI t r a m).graph.edges.length=_:=T.S.sizeE
 rw [hz] at h1
 rcases M.cases h0 h1 with ⟨x,hx,rfl⟩|⟨f,hf,rfl⟩
 ·have e1:=T.S.oldE hx
  have hr:=M.drange hx
  have e2:=T.S'.oldE (x:=iA s.edges x) (by rw [← T.I.en];exact M.tin hx)
  rw [← T.I.nn,← T.I.en,T.I.eg x hr.1 hr.2] at e2
  have e3:iA (qJ r a s m).edges (iA (kP r.keep.edges m.m.edges a.graph.edges.length) x)=_:=M.kept hx
  have hs:=T.S.endsE hx
  have k1:iA (qJ r a s m).nodes _=_:=N.kept hs.1
  have k2:iA (qJ r a s m).nodes _=_:=N.kept hs.2
  rw [e1,e3]
  simp only
  rw [k1,k2]
  exact e2
 ·have e1:=T.S.newE (f:=f) hf
  have e2:=T.S'.newE (f:=f) hf
  rw [T.S.restE] at e1
  rw [T.S'.restE,← T.I.en] at e2
  have e3:iA (qJ r a s m).edges (((iL r.keep.edges m.m.edges a.graph.edges.length).length+f:Nat):Int)=_:=M.new hf
  have hfm:iA r.freshE f∈bF r.into.edges r.right.graph.edges.length:=fG (by omega) (by show (f:Int)<((bF r.into.edges r.right.graph.edges.length).length:Int);omega)
  have hfr:=(fC.1 hfm).1
  have hin:=tG T.S.hR.gr hfr.1 hfr.2
  have c1:=T.cN hin.1
  have c2:=T.cN hin.2.1
  rw [e1,e3]
  unfold freshE at e1 e2 ⊢
  simp only
  have q1:(dO r a m).nodes[(eA r.right.graph (iA r.freshE f)).from_.toNat]?.getD 0=iA (dO r a m).nodes (eA r.right.graph (iA r.freshE f)).from_:=rfl
  have q2:(dO r a m).nodes[(eA r.right.graph (iA r.freshE f)).to_.toNat]?.getD 0=iA (dO r a m).nodes (eA r.right.graph (iA r.freshE f)).to_:=rfl
  rw [q1,q2,c1,c2]
  exact e2
theorem Two.spot (T:Two t r a b s m){c:Slot}(hc:c∈r.right.slots):(eE (dO r a m) c<(bI t r a m).graph.nodes.length)∧((eE (dO r a m) c:Nat):Int)=iA (dO r a m).nodes c.node∧eE (dO r b (imM s m)) c=(iA (qJ r a s m).nodes (eE (dO r a m) c)).toNat:=by
 have h1:=(T.S.hR.slots c hc).1
 have h2:=T.S.srtN.c_in h1
 rw [← T.S.coN] at h2
 have hz:(bI t r a m).graph.nodes.length=_:=T.S.sizeN
 have e:((eE (dO r a m) c:Nat):Int)=iA (dO r a m).nodes c.node:=by
  show (((iA (dO r a m).nodes c.node).toNat:Nat):Int)=_;omega
 refine ⟨by omega,e,?_⟩
 rw [e,T.cN h1];rfl
end
section
variable {t:Types} {r:Rule} {a b:Host} {m:Mat} {s:Part}
theorem Two.injN (T:Two t r a b s m){p q:Int}(hp:0≤p∧p<(bI t r a m).graph.nodes.length)(hq:0≤q∧q<(bI t r a m).graph.nodes.length)(h:iA (qJ r a s m).nodes p=iA (qJ r a s m).nodes q):p=q:=by
 have hz:(bI t r a m).graph.nodes.length=_:=T.S.sizeN
 have hl:(qJ r a s m).nodes.length=_:=T.mvN.mlen
 have:=qG (l:=(qJ r a s m).nodes) T.mvN.nodup (i:=p.toNat) (j:=q.toNat) (by omega) (by omega) (by rw [show ((p.toNat:Nat):Int)=p by omega,show ((q.toNat:Nat):Int)=q by omega];exact h)
 omega
theorem Two.atN (T:Two t r a b s m){p:Int}(hp:0≤p∧p<(bI t r a m).graph.nodes.length):0≤iA (qJ r a s m).nodes p∧iA (qJ r a s m).nodes p<(bI t r a m).graph.nodes.length:=by
 have hz:(bI t r a m).graph.nodes.length=_:=T.S.sizeN
 have hl:(qJ r a s m).nodes.length=_:=T.mvN.mlen
 have h1:=T.mvN.range _ (fG (l:=(qJ r a s m).nodes) hp.1 (by omega))
 rw [T.mvN.len] at h1
 omega
theorem Two.clash (T:Two t r a b s m){c d:Slot}(hc:c∈r.right.slots)(hd:d∈r.right.slots):y6 (dO r b (imM s m)) m.vars c d=y6 (dO r a m) m.vars c d:=by
 obtain ⟨c1,c2,c3⟩:=T.spot hc
 obtain ⟨d1,d2,d3⟩:=T.spot hd
 have a1:=T.atN (p:=(eE (dO r a m) c:Nat)) (by omega)
 have a2:=T.atN (p:=(eE (dO r a m) d:Nat)) (by omega)
 unfold y6
 congr 1
 refine decide_eq_decide.2 ?_
 rw [c3,d3]
 constructor
 ·intro h
  have:=T.injN (p:=(eE (dO r a m) c:Nat)) (q:=(eE (dO r a m) d:Nat)) (by omega) (by omega) (by omega)
  omega
 ·intro h;rw [h]
theorem Two.out (T:Two t r a b s m){c:Slot}(hc:c∈r.right.slots):Ao t (bI t r b (imM s m)).graph (dO r b (imM s m)) m.vars c=Ao t (bI t r a m).graph (dO r a m) m.vars c:=by
 obtain ⟨c1,c2,c3⟩:=T.spot hc
 have h:=(T.node (p:=(eE (dO r a m) c:Nat)) (by omega) (by omega)).1
 unfold gN at h
 rw [Int.toNat_natCast] at h
 unfold Ao
 rw [c3,← h]
theorem Two.put (T:Two t r a b s m):xJ t (bI t r b (imM s m)).graph (dO r b (imM s m)) m.vars r.right.slots=xJ t (bI t r a m).graph (dO r a m) m.vars r.right.slots:=by
 have h1:t8 (dO r b (imM s m)) m.vars r.right.slots=t8 (dO r a m) m.vars r.right.slots:=by
  unfold t8
  rw [aX,aZ,aZ]
  refine exists_congr fun i=>and_congr_right fun hi=>?_
  rw [aZ,aZ]
  refine exists_congr fun k=>and_congr_right fun hk=>?_
  have hi':=aR.1 hi
  have hk':=aR.1 hk
  have hk2:k<r.right.slots.length:=by omega
  rw [aA hi',aA hk2]
  simp only
  rw [T.clash (aC _) (aC _)]
 have h2:r.right.slots.any (Ao t (bI t r b (imM s m)).graph (dO r b (imM s m)) m.vars)=r.right.slots.any (Ao t (bI t r a m).graph (dO r a m) m.vars):=by
  rw [aX,aZ,aZ]
  exact exists_congr fun c=>and_congr_right fun hc=>by rw [T.out hc]
 unfold xJ
 rw [h1,h2]
theorem II {c c':Part}{vs:List Int}{f:Nat→Nat}{n:Nat}(hi:∀ p q:Nat,p<n→q<n→f p=f q→p=q)(hf:∀ p,p<n→f p<n):∀ (l:List Slot) (v v':List (List Int)),v.length=n→v'.length=n →
  (∀ x∈l,eE c x<n∧eE c' x=f (eE c x))→(∀ p,p<n→v[p]?.getD []=v'[f p]?.getD [])→∀ p,p<n→(sL c vs l v)[p]?.getD []=(sL c' vs l v')[f p]?.getD []
 | [],v,v',_,_,_,h=>h
 | x :: l,v,v',h1,h2,hx,h=>by
  obtain ⟨x1,x2⟩:=hx x (by simp)
  have e1:sL c vs (x :: l) v=sL c vs l (v.set (eE c x) ((v[eE c x]?.getD []).set x.attr.toNat (dE x.term vs))):=rfl
  have e2:sL c' vs (x :: l) v'=sL c' vs l (v'.set (eE c' x) ((v'[eE c' x]?.getD []).set x.attr.toNat (dE x.term vs))):=rfl
  rw [e1,e2]
  refine II hi hf l _ _ (by rw [c7];exact h1) (by rw [c7];exact h2) (fun y hy=>hx y (by simp [hy])) fun p hp=>?_
  have hfp:=hf _ hp
  rw [x2,← h _ x1]
  by_cases hpk:eE c x=p
  ·subst hpk
   rw [fK (by omega),fK (by omega)]
  ·rw [iZ hpk,iZ (fun he=>hpk (hi _ _ x1 hp he))]
   exact h p hp
theorem Two.iso (T:Two t r a b s m)(K:StepOk t r a m)(K':StepOk t r b (imM s m)):HIso (dR t r a m) (dR t r b (imM s m)) (qJ r a s m):=by
 have N:=T.mvN
 have E:=T.mvE
 have ga:(dR t r a m).graph=(bI t r a m).graph:=rfl
 have gb:(dR t r b (imM s m)).graph=(bI t r b (imM s m)).graph:=rfl
 have zn:(bI t r a m).graph.nodes.length=_:=T.S.sizeN
 have ze:(bI t r a m).graph.edges.length=_:=T.S.sizeE
 have wn:=T.sizeN
 have we:=T.sizeE
 have va:=T.S.vlen
 have vb:=T.S'.vlen
 refine ⟨?_,?_,?_,?_,?_,?_,?_,?_,N.nodup,E.nodup,?_,?_,?_⟩
 ·rw [ga,zn];exact N.mlen
 ·rw [ga,ze];exact E.mlen
 ·rw [ga,gb,wn]
 ·rw [ga,gb,we]
 ·rw [K.rows.1,va,ga]
 ·rw [K'.rows.1,vb,gb]
 ·intro x hx
  rw [gb,wn,zn,← N.len];exact N.range x hx
 ·intro x hx
  rw [gb,we,ze,← E.len];exact E.range x hx
 ·intro p h0 h1
  exact (T.node h0 h1).1
 ·intro p h0 h1
  exact T.edge h0 h1
 ·intro p h0 h1
  rw [ga] at h1
  have:=II (c:=dO r a m) (c':=dO r b (imM s m)) (vs:=m.vars) (f:=fun (k:Nat)=>(iA (qJ r a s m).nodes k).toNat) (n:=(bI t r a m).graph.nodes.length) (fun p q hp hq h=>by
   have a1:=T.atN (p:=(p:Nat)) (by omega)
   have a2:=T.atN (p:=(q:Nat)) (by omega)
   have:=T.injN (p:=(p:Nat)) (q:=(q:Nat)) (by omega) (by omega) (by omega)
   omega) (fun p hp=>by have a1:=T.atN (p:=(p:Nat)) (by omega);omega) r.right.slots (bI t r a m).values (bI t r b (imM s m)).values va (by rw [vb,wn]) (fun x hx=>⟨(T.spot hx).1,(T.spot hx).2.2⟩) (fun p hp=>by
   have:=(T.node (p:=(p:Nat)) (by omega) (by omega)).2
   rwa [Int.toNat_natCast] at this) p.toNat (by omega)
  rw [show ((p.toNat:Nat):Int)=p by omega] at this
  exact this
theorem HIso.app (I:HIso a b s)(hr:r.ok)(hd:Nr t r)(hb:fA t b=0)(h:wN t r a m=0):wN t r b (imM s m)=0∧HIso (dR t r a m) (dR t r b (imM s m)) (qJ r a s m):=by
 unfold wN at h
 split at h
 ·exact absurd h (by assumption)
 ·rename_i h1
  have h1':fV t r a=0:=by simpa using h1
  have hg:=h1'
  unfold fV at hg
  split at hg
  ·exact absurd hg (by assumption)
  ·rename_i h2
   have hrule:ruleF t r=0:=by simpa using h2
   have hR:=LQ hr hrule
   have A:=Go.Abs.hostOk hg
   have B:=Go.Abs.hostOk hb
   have K:=JV hR A h
   have hposs:pX t r a m=0:=by
    unfold jC at h
    split at h
    ·exact absurd h (by assumption)
    ·rename_i h3;simpa using h3
   have hposs':pX t r b (imM s m)=0:=I.poss hg hb hR hd hposs
   have hpre:vV t r b (imM s m)=0:=by
    unfold pX at hposs'
    split at hposs'
    ·exact absurd hposs' (by assumption)
    ·rename_i h4;simpa using h4
   have T:Two t r a b s m:=⟨I,K.S,JW hR B hpre⟩
   have hput:=T.put
   rw [K.put] at hput
   have hn:=T.sizeN
   have he:=T.sizeE
   have kn:=K.nn
   have ke:=K.ne
   have hstep:jC t r b (imM s m)=0:=by
    unfold jC
    have hput':xJ t (bI t r b (imM s m)).graph (dO r b (imM s m)) (imM s m).vars r.right.slots=0:=hput
    rw [if_neg (by rw [hposs'];simp),if_neg (by rw [hput'];simp),if_neg (by omega)]
   have hg':fV t r b=0:=by unfold fV;rw [if_neg (by rw [hrule];simp),hb]
   exact ⟨by unfold wN;rw [if_neg (by rw [hg'];simp),hstep],T.iso K (JV hR B hstep)⟩
end
theorem O6 (d:Dr26)(order:List UInt8)(t:Types)(r:Rule)(h o:Host)(s:Part)(L:List Mat)(E:Int)(b:Bool)(V W:Mat→Stp26)(hLl:L.length≤1000000)
  (cM:Pure Tryz.prog 22 [.agg d.c] (.tup [t.d,r.d,h.d]))
  (cL:Pure Tryz.prog 13 [t.d,r.d,h.d] (.bool b))
  (cR:Pure Tryz.prog 23 [h.d,.list (order.map cU),.list (order.map cU)] (.tup [o.d,s.d]))
  (cP:b=true→Pure Tryz.prog 24 [t.d,r.d,h.d] (.tup [.list (L.map Mat.c),dI E]))
  (hE:b=true→E=0∨E=3)
  (cA:b=true→E=0→∀ m∈L,Pure Tryz.prog 15 [t.d,r.d,h.d,m.d] (.tup [.agg (V m).c,dI 0]))
  (cT:b=true→E=0→∀ m∈L,Pure Tryz.prog 25 [m.m.d,s.d] (imP s m.m).d)
  (cB:b=true→E=0→∀ m∈L,Pure Tryz.prog 15 [t.d,r.d,o.d,(imM s m).d] (.tup [.agg (W m).c,dI 0]))
  (cF:b=true→E=0→∀ m∈L,∃ (p:Part) (e:Int),(e=0∨e=3)∧Pure Tryz.prog 26 [t.d,(V m).after.d,(W m).after.d] (.tup [p.d,dI e])) :
  Pure Tryz.prog 5 [.agg d.c,.list (order.map cU)] (.bool true):=by
 have hm1:(if (3:Int)<(L.length:Int) then (3:Int) else (L.length:Int))=((min L.length 3:Nat):Int):=by split<;>omega
 obtain ⟨k,hk⟩:∃ m,min L.length 3=m:=⟨_,rfl⟩
 rw [hk] at hm1
 have hk':k≤L.length:=by omega
 obtain ⟨M,hM⟩:∃ M,M=L.take k:=⟨_,rfl⟩
 have hMm:(L.map Mat.c).take k=M.map Mat.c:=by rw [hM,List.map_take]
 have hML:∀ m∈M,m∈L:=fun m hm=>cK (hM ▸ hm)
 have hMl:M.length=k:=by rw [hM,bQ];omega
 refine Tz.pK ⟨fun t=>t==5||t==6||t==7||t==8||t==9||t==13||t==14||t==16||t==18,fun r=>match r with|14=>[(0,14),(1,14),(2,14),(3,14),(4,14),(5,14),(6,14),(7,14),(8,14),(10,14)]|_=>[]⟩ Tryz.func5 rfl (fun Q hQ=>?_)
 have Y:=wa @Dr26.c.eq_1 (wa @Dr24.c.eq_1 (wa @Dr15.c.eq_1 (wa @Host.d.eq_1 (wa @Host.c.eq_1 (wa @Mat.d.eq_1 (wa @Mat.c.eq_1 (wa @Rule.d.eq_1 (wa @Rule.c.eq_1 (wa @Stp26.c.eq_1 (wa @Part.d.eq_1 (wa @Part.c.eq_1 (wa @imM.eq_1 (wa @imP.eq_1 (wa hm1 hMm))))))))))))))
 refine Lh (h:=aB (D9) wl ?_)
 refine Lh (h:=wq (fun h1=>?_) fun h1=>?_)
 ·refine Io (h:=aB (D9) wl ?_)
  have Y:=wa Y h1
  exact Io (h:=hQ _ _ wy)
 ·refine Io (h:=aB ((by have hz:=cM;simp only [Dr26.c,Dr24.c,Dr15.c,gU,fR] at hz;unfold Rule.d Host.d at hz;exact hz)) wl ?_)
  refine Lh (h:=aB (cL) wl ?_)
  refine Lh (h:=wq (fun h4=>?_) fun h4=>?_)
  ·have Y:=wa Y (wa h1 h4)
   exact Io (h:=hQ _ _ wy)
  ·have hb:b=true:=by cases hbb:b<;>simp [hbb] at h4 ⊢
   refine Io (h:=aB (cR) wl ?_)
   refine Io (h:=aB (cP hb) wl ?_)
   refine Io (h:=wq (fun h8=>?_) fun h8=>?_)
   ·have hE3:E=3:=by rcases hE hb with h|h;exact absurd h (by simpa using h8);exact h
    have Y:=wa Y hE3
    have Y:=wa Y (wa h1 (wa h4 h8))
    exact Io (h:=hQ _ _ wy)
   ·have hE0:E=0:=by simpa using h8
    refine Lh (h:=bV (fun i e H=>(e 2=.adr d.c∧e 1=.list (order.map cU)∧e 5=.ptr 0 1 0 0∧e 6=.ptr 1 1 0 0∧e 7=.ptr 2 1 0 0∧e 8=.ptr 3 1 0 0∧e 9=.ptr 4 1 0 0∧e 61=.list (M.map Mat.c)∧e 62=dI M.length∧e 63=dI i)∧(H.get 0=some ⟨25,2,[t.c],false⟩)∧(0<H.next)∧(H.get 1=some ⟨41,25,[r.c],false⟩)∧(1<H.next)∧(H.get 2=some ⟨44,3,[h.c],false⟩)∧(2<H.next)∧(H.get 3=some ⟨44,3,[o.c],false⟩)∧(3<H.next)∧(H.get 4=some ⟨36,2,[s.c],false⟩)∧(4<H.next)∧(i≤M.length)) (fun i=>M.length - i) 0 ⟨wg,wn,wn,wn,wn,wn,wn,wn,wn,wn,wn,wi⟩ fun I0 hI0 i e H hi0=>?_)
    obtain ⟨E0,g0_0,n0_0,g1_0,n1_0,g2_0,n2_0,g3_0,n3_0,g4_0,n4_0,hi⟩:=hi0
    have Y:=wa Y (wa E0 (wa g0_0 (wa (b8 n0_0) (wa g1_0 (wa (b8 n1_0) (wa g2_0 (wa (b8 n2_0) (wa g3_0 (wa (b8 n3_0) (wa g4_0 (b8 n4_0)))))))))))
    refine Io (h:=wq (fun h11=>?_) fun h11=>?_)
    ·obtain ⟨pp,ee,hee,hF⟩:=cF hb hE0 M[i] (hML _ (aC h11))
     have Y:=wa Y (wa h11 (aA h11))
     refine Lh (h:=aB (cA hb hE0 M[i] (hML _ (aC h11))) wl ?_)
     refine Lh (h:=aM (cT hb hE0 M[i] (hML _ (aC h11))) wl ?_)
     refine Lh (h:=aM ((by have hz:=cB hb hE0 M[i] (hML _ (aC h11));simp only [imM,imP,Mat.d,Mat.c,dLI,List.map_map] at hz;exact hz)) wl ?_)
     refine Lh (h:=aB (hF) wl ?_)
     refine Lh (h:=aP (fun h18=>?_) (fun h18=>?_))
     ·rcases hee with rfl|rfl<;>simp [go_sem] at h18
     ·try simp [go_sem] at h18
      exact Lh (h:=wx hI0 (i+1) ⟨wg,wn,wn,wn,wn,wn,wn,wn,wn,wn,wn,wj⟩)
    ·have Y:=wa Y (wa h1 (wa h4 (wa h8 h11)))
     exact Io (h:=hQ _ _ wy)
theorem MM {t:Types}(h:MadeTy t)(d:Dr24):Nr t (v6 t d):=by
 have C:=Tt h d
 obtain ⟨_,l1,l2,hv⟩:=uY t d.left
 unfold v6
 split
 ·exact .inl rfl
 ·rcases Ji h C.g0 C.t0 l1 l2 d.forbid with e|⟨g,e,h1,h2,_,_⟩
  ·exact .inl e
  ·exact .inr ⟨g,e,h1,h2⟩
theorem yQ (d:Dr26)(order:List UInt8):Pure Tryz.prog 5 [.agg d.c,.list (order.map cU)] (.bool true):=by
 have hT:MadeTy (T0 d):=Uy _ _
 have hr0:ruleF (T0 d) (Vc d)=0:=ML hT _
 have hh0:fA (T0 d) (GO d)=0:=MO hT _
 have hrl:(Vc d).le:=RA _ _
 have hdc:Nr (T0 d) (Vc d):=MM hT _
 have hO:light26 (T0 d) (Vc d) (GO d)=true→(Vc d).ok:=fun hb=>(O4 hb).2
 have hH:=hostOk hh0
 obtain ⟨t,ht⟩:∃ t,t=T0 d:=⟨_,rfl⟩
 obtain ⟨r,hr⟩:∃ r,r=Vc d:=⟨_,rfl⟩
 obtain ⟨h,hh⟩:∃ h,h=GO d:=⟨_,rfl⟩
 have cM:=OD d
 rw [← ht,← hr,← hh] at cM hO
 rw [← ht] at hT
 rw [← ht,← hr] at hr0 hdc
 rw [← ht,← hh] at hh0 hH
 rw [← hr] at hrl
 obtain ⟨p,hp⟩:∃ p,p=jD h.graph.nodes.length order:=⟨_,rfl⟩
 obtain ⟨q,hq⟩:∃ q,q=jD h.graph.edges.length order:=⟨_,rfl⟩
 have cR:=HU h hH.gg hH.vl (fun v hv=>c9 (hH.row v hv).1 (by omega)) order order
 have p1:=lQ h.graph.nodes.length order
 have p2:=lQ h.graph.edges.length order
 rw [← hp,← hq] at cR
 rw [← hp] at p1
 rw [← hq] at p2
 have I:=Tg hH.gg hH.vl p1 p2
 obtain ⟨s,hs⟩:∃ s,s=Part.mk p q:=⟨_,rfl⟩
 obtain ⟨o,ho⟩:∃ o,o=OC h p q:=⟨_,rfl⟩
 rw [← hs,← ho] at I cR
 have hle:=cJ hH.gg
 have hog:graphF o.graph=0:=by
  rw [ho]
  exact SJ hH.gg p1 p2 (EZ p1 fun v hv=>by rw [hp];exact zL _ _ hv) (EZ p2 fun v hv=>by rw [hq];exact zL _ _ hv)
 have hoo:fA t o=0:=by
  have O:=I.hostOk hH hog
  have hol:=cJ hog
  have hin:=dF hog
  refine GM O.vf (by omega) (by omega) O.vl (tD O) O.nd fun y hy=>?_
  have h1:=hin.2 y hy
  have h2:=O.ed y hy
  exact ⟨⟨⟨h1.1.1,h2.1⟩,h1.2.1,h1.2.2⟩,h2.2⟩
 have key:light26 t r h=true→∀ m∈(sM t r h).1,StepOk t r h m∧wN t r o (imM s m)=0∧HIso (dR t r h m) (dR t r o (imM s m)) (qJ r h s m):=fun hb m hm=>by
  obtain ⟨h1,h2⟩:=NO hm
  have hA:wN t r h m=0:=by unfold wN;rw [if_neg (by rw [h1];simp),h2]
  exact ⟨JV (LQ (hO hb) hr0) hH h2,I.app (hO hb) hdc hoo hA⟩
 refine O6 d order t r h o s (sM t r h).1 (sM t r h).2 (light26 t r h) (b9 t r h) (fun m=>b9 t r o (imM s m)) (by have:=U4 t r h;omega) cM (Kf _ (MJ hT) _ hrl _) cR (fun hb=>wT _ hT.fine.ok _ (hO hb) _) (fun hb=>Rx (hO hb) hr0 hh0)
  (fun hb _ m hm=>PQ hT.fine.ok (hO hb) hm) (fun hb _ m hm=>?_) (fun hb _ m hm=>?_) (fun hb _ m hm=>?_)
 ·have S:=(key hb m hm).1.S
  have h1:=S.hm.len
  have h2:=S.hm.elen
  have hll:=cJ S.hR.pl.gg
  have nl:=I.nl
  have el:=I.el
  exact OM m.m s (by omega) (by omega) (fun x hx=>by have:=S.imN x hx;omega) (fun x hx=>by have:=S.imE x hx;omega)
 ·have hA:=(key hb m hm).2.1
  exact Bx t hT.fine.ok r (hO hb) o (imM s m) (by unfold pU;rw [if_pos hA]) hA.symm
 ·obtain ⟨K,hA,J⟩:=key hb m hm
  have K':=Im (hO hb) hA
  exact Pe t hT.fine.ok _ _ K.after K'.after J
end Go.Abs
end
section
namespace Go.Proofs.YthalajhajpjjeaaGreat.bulks
open Go.Abs
theorem one_le {H:Type}(d:DataW H):1≤Rows.uptoBulk d:=by
 cases d with
 | lit l=>cases l<;>simp [Rows.uptoBulk]
 | _=>simp [Rows.uptoBulk]
theorem mem_le {H:Type}{d:DataW H}:∀ {l:List (DataW H)},d∈l→Rows.uptoBulk d≤Rows.uptoBulkAll l
 | [],h=>by cases h
 | x :: r,h=>by
  simp only [Rows.uptoBulkAll]
  rcases bP.1 h with rfl|h
  ·omega
  ·have:=mem_le h;omega
theorem len_le {H:Type}:∀ l:List (DataW H),l.length≤Rows.uptoBulkAll l
 | []=>by simp [Rows.uptoBulkAll]
 | x :: r=>by have:=one_le x;have:=len_le r;simp only [Rows.uptoBulkAll,eV];omega
theorem ok {H:Type}:Go.Abs.Bulk (Rows.uptoBulk (H:=H)) where
 len e s:=by have:=len_le e;simp only [Rows.uptoBulk];omega
 el e s d h:=by have:=mem_le h;simp only [Rows.uptoBulk];omega
 part l d h:=by have:=mem_le h;simp only [Rows.uptoBulk];omega
 str s:=by simp [Rows.uptoBulk]
theorem bound {H:Type}{l:List (DataW H)}(hk:Rows.uptoSmall H l=true):∀ d∈l,Rows.uptoBulk d≤1048576:=fun d hd=>by
 have h:=of_decide_eq_true hk
 have:=mem_le hd
 omega
end Go.Proofs.YthalajhajpjjeaaGreat.bulks
end
section
set_option maxRecDepth 100000
set_option maxHeartbeats 4000000
open Go Go.Proofs
namespace Go.Abs
section
variable {H:Type} {enc:TypeId × Value→H} {P:Program} {w:World} {base:Nat} {spare:Nat→Bool} {held:Bool} {bulk:DataW H→Nat} {B:Nat} {n:Nat} {t:TypeId}
theorem LL {fuel:Nat}{cs:List Value}{e:TypeId}:∀ (k o:Nat),cs.length=(o+k) * P.cellsOf e →
  (∀ i,o≤i→i<o+k→∃ y,DataW.trod enc P w base spare held fuel e ((cs.drop (i * P.cellsOf e)).take (P.cellsOf e))=some y∧bulk y.1≤B)→U5 enc P w base spare held bulk B fuel (List.replicate k e) (cs.drop (o * P.cellsOf e))
 | 0,o,hl,_=>by
  show cs.drop _=[]
  rw [List.drop_eq_nil_iff,hl];simp
 | k+1,o,hl,h=>by
  rw [sJ]
  refine ⟨h o (bC _) (by omega),?_⟩
  rw [List.drop_drop,show o * P.cellsOf e+P.cellsOf e=(o+1) * P.cellsOf e by rw [Nat.succ_mul]]
  exact LL k (o+1) (by rw [hl];congr 1;omega) fun i h1 h2=>h i (by omega) (by omega)
theorem s7 (hB:Bulk bulk){k:Nat}{e:TypeId}(ht:P.underlying t=some (.array k e))(hc:P.cellsOf t=k * P.cellsOf e){α:Type}{C:α→List D}{G:α→Prop}(h:Hx enc P w base spare held bulk B n (List.replicate k e) C G) :
  Opens enc P w base spare held bulk B (n+1) t C G:=fun fuel cs x hf hx hb=>by
 obtain ⟨xs,m,rfl,rfl,hcl,hxl,hfl⟩:=DataW.trod_array ht hx
 simp only at hb
 have hs:=LL (enc:=enc) (P:=P) (w:=w) (base:=base) (spare:=spare) (held:=held) (bulk:=bulk) (B:=B) (fuel:=m) (cs:=cs) (e:=e) k 0 (by rw [hcl,hc];simp) fun i _ hi=>by
  have hfi:=hfl i (by omega)
  rw [aA (by omega)] at hfi
  exact ⟨_,hfi,c9 (hB.part _ _ (aQ.2 ⟨_,aC (by omega),rfl⟩)) hb⟩
 rw [Nat.zero_mul,List.drop_zero] at hs
 exact h m cs (by omega) hs
theorem ST (ht:P.underlying t=some (.int .u8)):Opens enc P w base spare held bulk B n t cU (fun _=>True):=fun fuel cs x _ hx _=>by
 obtain ⟨z,rfl,_,hw⟩:=DataW.trod_int ht hx
 refine ⟨UInt8.ofNat z.toNat,trivial,?_,by simp [Value.oneCell']⟩
 have hz:0≤z∧z<256:=by
  have h1:IntKind.u8.min=0:=by decide
  have h2:IntKind.u8.max=255:=by decide
  simp only [Lit.wf,aN,decide_eq_true_eq,h1,h2] at hw;omega
 have he:(((UInt8.ofNat z.toNat).toNat:Nat):Int)=z:=by simp;omega
 unfold cU;rw [he];exact pV (.int .u8 z)
theorem SU (ht:P.underlying t=some (.int .i8)):Opens enc P w base spare held bulk B n t (fun x:Int8=>[D.int .i8 x.toInt]) (fun _=>True):=fun fuel cs x _ hx _=>by
 obtain ⟨z,rfl,_,hw⟩:=DataW.trod_int ht hx
 refine ⟨Int8.ofInt z,trivial,?_,by simp [Value.oneCell']⟩
 have hz : -128≤z∧z<128:=by
  have h1:IntKind.i8.min = -128:=by decide
  have h2:IntKind.i8.max=127:=by decide
  simp only [Lit.wf,aN,decide_eq_true_eq,h1,h2] at hw;omega
 have he:(Int8.ofInt z).toInt=z:=by rw [Int8.toInt_ofInt_of_le]<;>omega
 show RepL N3 gQ p5 w _ [D.int .i8 (Int8.ofInt z).toInt]
 rw [he];exact pV (.int .i8 z)
theorem Rj (ht:P.underlying t=some (.int .u64)):Opens enc P w base spare held bulk B n t (fun x:UInt64=>[D.int .u64 (x.toNat:Int)]) (fun _=>True):=fun fuel cs x _ hx _=>by
 obtain ⟨z,rfl,_,hw⟩:=DataW.trod_int ht hx
 refine ⟨UInt64.ofNat z.toNat,trivial,?_,by simp [Value.oneCell']⟩
 have hz:0≤z∧z<18446744073709551616:=by
  have h1:IntKind.u64.min=0:=by decide
  have h2:IntKind.u64.max=18446744073709551615:=by decide
  simp only [Lit.wf,aN,decide_eq_true_eq,h1,h2] at hw;omega
 have he:(((UInt64.ofNat z.toNat).toNat:Nat):Int)=z:=by simp;omega
 show RepL N3 gQ p5 w _ [D.int .u64 (((UInt64.ofNat z.toNat).toNat:Nat):Int)]
 rw [he];exact pV (.int .u64 z)
end
section
variable {H:Type} {enc:TypeId × Value→H} {w:World} {base:Nat} {spare:Nat→Bool} {held:Bool} {bulk:DataW H→Nat} {B:Nat}
theorem op4:∀ n,Opens enc Tryz.prog w base spare held bulk B n 4 (fun b:Bool=>[D.bool b]) (fun _=>True):=fun n=>OU Tryz.underlying4
theorem T2:∀ n,Opens enc Tryz.prog w base spare held bulk B n 5 cU (fun _=>True):=fun n=>ST Tryz.underlying5
theorem Qe:∀ n,Opens enc Tryz.prog w base spare held bulk B n 304 (fun x:Int8=>[D.int .i8 x.toInt]) (fun _=>True):=fun n=>SU Tryz.underlying304
theorem abV:∀ n,Opens enc Tryz.prog w base spare held bulk B n 69 (fun x:UInt64=>[D.int .u64 (x.toNat:Int)]) (fun _=>True):=fun n=>Rj Tryz.underlying69
theorem Yl (hB:Bulk bulk):∀ n,Opens enc Tryz.prog w base spare held bulk B n 227 cP (fun _=>True)
 | 0=>Opens.zero
 | n+1=>(s7 hB (k:=2) Tryz.underlying227 (by kernel_rfl) (b6 (T2 n) (b6 (T2 n) (kV)))).map (fun p=>(p.1,p.2.1)) (fun p=>rfl) (fun _ _=>trivial)
theorem Yk (hB:Bulk bulk):∀ n,Opens enc Tryz.prog w base spare held bulk B n 236 cT3 (fun _=>True)
 | 0=>Opens.zero
 | n+1=>(s7 hB (k:=3) Tryz.underlying236 (by kernel_rfl) (b6 (T2 n) (b6 (T2 n) (b6 (T2 n) (kV))))).map (fun p=>(p.1,p.2.1,p.2.2.1)) (fun p=>rfl) (fun _ _=>trivial)
theorem abU (hB:Bulk bulk):∀ n,Opens enc Tryz.prog w base spare held bulk B n 70 cU4 (fun _=>True)
 | 0=>Opens.zero
 | n+1=>(s7 hB (k:=4) Tryz.underlying70 (by kernel_rfl) (b6 (T2 n) (b6 (T2 n) (b6 (T2 n) (b6 (T2 n) (kV)))))).map (fun p=>(p.1,p.2.1,p.2.2.1,p.2.2.2.1)) (fun p=>rfl) (fun _ _=>trivial)
theorem Yj (hB:Bulk bulk):∀ n,Opens enc Tryz.prog w base spare held bulk B n 305 cT4 (fun _=>True)
 | 0=>Opens.zero
 | n+1=>(s7 hB (k:=4) Tryz.underlying305 (by kernel_rfl) (b6 (Qe n) (b6 (Qe n) (b6 (Qe n) (b6 (Qe n) (kV)))))).map (fun p=>(p.1,p.2.1,p.2.2.1,p.2.2.2.1)) (fun p=>rfl) (fun _ _=>trivial)
theorem V5 (hB:Bulk bulk):∀ n,Opens enc Tryz.prog w base spare held bulk B n 61 (fun l:List B2=>[D.list (l.map cP)]) (fun _=>True)
 | 0=>Opens.zero
 | n+1=>(s6 hB Tryz.underlying61 (Yl hB n)).map id (fun _=>rfl) (fun _ _=>trivial)
theorem SV (hB:Bulk bulk):∀ n,Opens enc Tryz.prog w base spare held bulk B n 63 (fun l:List B3=>[D.list (l.map cT3)]) (fun _=>True)
 | 0=>Opens.zero
 | n+1=>(s6 hB Tryz.underlying63 (Yk hB n)).map id (fun _=>rfl) (fun _ _=>trivial)
theorem Um (hB:Bulk bulk):∀ n,Opens enc Tryz.prog w base spare held bulk B n 62 (fun l:List UInt8=>[D.list (l.map cU)]) (fun _=>True)
 | 0=>Opens.zero
 | n+1=>(s6 hB Tryz.underlying62 (T2 n)).map id (fun _=>rfl) (fun _ _=>trivial)
theorem abX (hB:Bulk bulk):∀ n,Opens enc Tryz.prog w base spare held bulk B n 66 (fun l:List T4=>[D.list (l.map cT4)]) (fun _=>True)
 | 0=>Opens.zero
 | n+1=>(s6 hB Tryz.underlying66 (Yj hB n)).map id (fun _=>rfl) (fun _ _=>trivial)
theorem abY (hB:Bulk bulk):∀ n,Opens enc Tryz.prog w base spare held bulk B n 65 Dr5.c (fun _=>True)
 | 0=>Opens.zero
 | n+1=>(n7 hB Tryz.underlying65 (by kernel_rfl) (b6 (Um hB n) (b6 (SV hB n) (kV)))).map (fun p=>⟨p.1,p.2.1⟩) (fun p=>rfl) (fun _ _=>trivial)
theorem abW (hB:Bulk bulk):∀ n,Opens enc Tryz.prog w base spare held bulk B n 68 Dr21.c (fun _=>True)
 | 0=>Opens.zero
 | n+1=>(n7 hB Tryz.underlying68 (by kernel_rfl) (b6 (abY hB n) (b6 (SV hB n) (b6 (abX hB n) (kV))))).map (fun p=>⟨p.1,p.2.1,p.2.2.1⟩) (fun p=>rfl) (fun _ _=>trivial)
theorem abT (hB:Bulk bulk):∀ n,Opens enc Tryz.prog w base spare held bulk B n 72 Dr24.c (fun _=>True)
 | 0=>Opens.zero
 | n+1=>(n7 hB Tryz.underlying72 (by kernel_rfl) (b6 (abW hB n) (b6 (abV n) (b6 (Um hB n) (b6 (SV hB n) (b6 (SV hB n) (b6 (op4 n) (b6 (op4 n) (b6 (abU hB n) (b6 (Um hB n) (kV))))))))))).map (fun p=>⟨p.1,p.2.1,p.2.2.1,p.2.2.2.1,p.2.2.2.2.1,p.2.2.2.2.2.1,p.2.2.2.2.2.2.1,p.2.2.2.2.2.2.2.1,p.2.2.2.2.2.2.2.2.1⟩) (fun p=>rfl) (fun _ _=>trivial)
theorem abS (hB:Bulk bulk):∀ n,Opens enc Tryz.prog w base spare held bulk B n 74 Dr15.c (fun _=>True)
 | 0=>Opens.zero
 | n+1=>(n7 hB Tryz.underlying74 (by kernel_rfl) (b6 (V5 hB n) (b6 (SV hB n) (kV)))).map (fun p=>⟨p.1,p.2.1⟩) (fun p=>rfl) (fun _ _=>trivial)
end
section
variable {H:Type} {enc:TypeId × Value→H} {w:World} {base:Nat} {spare:Nat→Bool} {held:Bool} {bulk:DataW H→Nat} {B:Nat}
theorem abR (hB:Bulk bulk):∀ n,Opens enc Tryz.prog w base spare held bulk B n 76 Dr26.c (fun _=>True)
 | 0=>Opens.zero
 | n+1=>(n7 hB Tryz.underlying76 (by kernel_rfl) (b6 (V5 hB n) (b6 (V5 hB n) (b6 (abT hB n) (b6 (abS hB n) (kV)))))).map (fun p=>⟨p.1,p.2.1,p.2.2.1,p.2.2.2.1⟩) (fun p=>by simp [Dr26.c]) (fun _ _=>trivial)
end
end Go.Abs
end
