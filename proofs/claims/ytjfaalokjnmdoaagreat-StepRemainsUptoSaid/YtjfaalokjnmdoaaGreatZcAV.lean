/- law26: drafts; StepCounts. · What the bound on the bulk of t -/
import Derived.Test.YtjfaalokjnmdoaaGreatZcAF
import Derived.Test.YtjfaalokjnmdoaaGreatZcAA
import Derived.Test.YtjfaalokjnmdoaaGreatZcAP
import Derived.Test.YtjfaalokjnmdoaaGreatZcAT
import Derived.Test.YtjfaalokjnmdoaaGreatZcAU
import Derived.Test.YtjfaalokjnmdoaaGreatRows
import Derived.OpenShut
set_option linter.unusedVariables false
set_option linter.unusedSimpArgs false
section
set_option maxRecDepth 100000
set_option maxHeartbeats 4000000
open Go Go.Proofs
namespace Go.Abs
@[go_sem] theorem ZS (o:Option UInt8)(a0:D):((Option.map cU o).getD [a0]).length=1:=by cases o<;>rfl
@[go_sem] theorem Zv (o:Option B3)(a0 a1 a2:D):((Option.map cT3 o).getD [a0,a1,a2]).length=3:=by cases o<;>rfl
@[go_sem] theorem ZT (o:Option B2)(a0 a1:D):((Option.map cP o).getD [a0,a1]).length=2:=by cases o<;>rfl
theorem Bi (l:List Slot):d7 (l.map Slot.c)=l.map Slot.c:=jN fun c hc=>by
 rw [aT] at hc;obtain ⟨x,_,rfl⟩:=hc;rfl
theorem Bh (l:List Test):d7 (l.map Test.c)=l.map Test.c:=jN fun c hc=>by
 rw [aT] at hc;obtain ⟨x,_,rfl⟩:=hc;rfl
theorem SU (c:Cond):jH c.c=c.c:=by
 refine j7 (p:=fun c=>jH c.c=c.c) (fun c ih=>?_) c
 rw [Cond.c_eq]
 have hk:d7 (c.kids.map Cond.c)=c.kids.map Cond.c:=jN fun d hd=>by
  rw [aT] at hd;obtain ⟨x,hx,rfl⟩:=hd;exact ih x hx
 simp [jH,mO,dLI,dI,eZ,qD,Bi,Bh,hk]
theorem FE (l:List Cond):d7 (l.map Cond.c)=l.map Cond.c:=jN fun c hc=>by
 rw [aT] at hc;obtain ⟨x,_,rfl⟩:=hc;exact SU x
theorem RH (l:List (List Int)):d7 (l.map cL)=l.map cL:=jN fun c hc=>by
 rw [aT] at hc;obtain ⟨x,_,rfl⟩:=hc
 simp [cL,dLI,jH,mO,eZ]
theorem RL (n a:Nat):(if a<n then (a:Int) else (n:Int))=((min n a:Nat):Int):=by split<;>omega
def small (d:Dr5)(a b:Nat):Dr5:=⟨d.nodes.take (min d.nodes.length a),d.edges.take (min d.edges.length b)⟩
theorem Lf (d:Dr5)(a b:Nat)(ha:a≤1000)(hb:b≤1000):Pure Tryz.prog 68 [.agg d.c,dI a,dI b] (.agg (small d a b).c):=by
 have hm1:=RL d.nodes.length a
 have hm2:=RL d.edges.length b
 obtain ⟨ma,hma⟩:∃ m,min d.nodes.length a=m:=⟨_,rfl⟩
 obtain ⟨mb,hmb⟩:∃ m,min d.edges.length b=m:=⟨_,rfl⟩
 rw [hma] at hm1
 rw [hmb] at hm2
 have hma':ma≤d.nodes.length:=by omega
 have hmb':mb≤d.edges.length:=by omega
 refine Tz.pK ⟨fun t=>t==6,fun _=>[]⟩ Tryz.func68 rfl (fun Q hQ=>?_)
 have Y:=wa @Dr5.c.eq_1 (wa hm1 hm2)
 exact wo (h:=hQ _ _ (by simp [go_sem,small,Y,hma,hmb]))
structure Dr26 where
 types:List B2
 ends:List B2
 rule:Dr24
 host:Dr15
def Dr26.c (d:Dr26):List D:=[.list (d.types.map cP),.list (d.ends.map cP)]++d.rule.c++d.host.c
@[go_sem] theorem Dr26.cl (d:Dr26):D.clL d.c=true:=by simp [Dr26.c,AF,Dr24.cl,Dr15.c,D.clL,D.cl,Sc,BR]
def nS (d:Dr24):Dr24:={ d with left:={ d.left with graph:=small d.left.graph 3 2 } }
def pG (d:Dr26):Types:=iH d.types d.ends
def pM (d:Dr26):Rule:=lV (pG d) (nS d.rule)
def o7 (d:Dr26):Host:=Ao (pG d) ⟨d.host.nodes.take (min d.host.nodes.length 6),d.host.edges.take (min d.host.edges.length 8)⟩
theorem Ag (d:Dr26):Pure Tryz.prog 22 [.agg d.c] (.tup [(pG d).d,(pM d).d,(o7 d).d]):=by
 have hf:=FN d.types d.ends
 obtain ⟨T,hT⟩:∃ T,iH d.types d.ends=T:=⟨_,rfl⟩
 have hM:=NP d.types d.ends
 rw [hT] at hf hM
 have hm1:(if (6:Int)<(d.host.nodes.length:Int) then (6:Int) else (d.host.nodes.length:Int))=((min d.host.nodes.length 6:Nat):Int):=by split<;>omega
 have hm2:(if (8:Int)<(d.host.edges.length:Int) then (8:Int) else (d.host.edges.length:Int))=((min d.host.edges.length 8:Nat):Int):=by split<;>omega
 obtain ⟨ma,hma⟩:∃ m,min d.host.nodes.length 6=m:=⟨_,rfl⟩
 obtain ⟨mb,hmb⟩:∃ m,min d.host.edges.length 8=m:=⟨_,rfl⟩
 rw [hma] at hm1
 rw [hmb] at hm2
 have hma':ma≤d.host.nodes.length:=by omega
 have hmb':mb≤d.host.edges.length:=by omega
 refine sM (by first|rfl|(simp [go_sem];done)) (fun Q hQ=>(aG (cfg:=⟨fun t=>t==1||t==2||t==3||t==4||t==5,fun r=>match r with|3=>[(15,20),(16,20),(17,20)]|_=>[]⟩) Tz.mixed Tryz.func22 rfl rfl (aE rfl) (by kernel_rfl) ?_))
 have Y:=wa @Dr26.c.eq_1 (wa @Dr24.c.eq_1 (wa @Dr15.c.eq_1 (wa @Dr5.c.eq_1 (wa @Host.d.eq_1 (wa @Host.c.eq_1 (wa hm1 hm2))))))
 refine G3 (h:=aB (hM) wl ?_)
 refine G3 (h:=aB (Lf d.rule.left.graph 3 2 (by omega) (by omega)) wl ?_)
 refine Ab (h:=aQ ((by have hq:=NF T hf (nS d.rule);simp only [nS,Dr24.c,Dr5.c] at hq;exact hq)) wl ?_)
 refine Ab (h:=aQ ((by have hq:=NM T hf ⟨d.host.nodes.take ma,d.host.edges.take mb⟩;simpa [go_sem,Dr15.c,Host.d,Host.c] using hq)) wl ?_)
 refine Ab (h:=?_)
 exact hQ _ _ (by simp [go_sem,Y,pG,pM,o7,nS,hT,hma,hmb,Types.d,Types.c,Host.d,Host.c,Rule.d,tM,uW,eZ,qD,Bi,Bh,FE,RH])
@[go_sem] theorem Zt (o:Option Mat)(a0 a1 a2:D):((Option.map Mat.c o).getD [a0,a1,a2]).length=3:=by cases o<;>rfl
/-! ### StepCounts -/
def Pr (im keep:List Int)(i:Nat):List Int:=((List.range i).filter fun (i:Nat)=>!mem keep i).map fun i=>im[i]?.getD 0
theorem Gd (im keep:List Int)(i:Nat):Pr im keep (i+1)=Pr im keep i++(if mem keep i=true then [] else [im[i]?.getD 0]):=by
 unfold Pr
 rw [bJ,fP,List.map_append]
 congr 1
 cases h:mem keep (i:Int)<;>simp [h]
theorem zZ (im keep:List Int)(hl:im.length≤1000)(hk:keep.length≤1000000):Pure Tryz.prog 25 [dLI im,dLI keep] (dLI (eL im keep)):=by
 refine Tz.pK ⟨fun t=>t==5,fun _=>[]⟩ Tryz.func25 rfl (fun Q hQ=>?_)
 have Y:=trivial
 refine wo (h:=bP (fun i e H=>∃ xs:List Int,(e 0=dLI im∧e 1=dLI keep∧e 11=dLI im∧e 12=dI im.length∧e 13=dI i∧e 5=.own 0 xs.length)∧(H.get 0=some ⟨3,1,xs.map cI,false⟩)∧(0<H.next)∧(i≤im.length)∧(xs.length≤i)∧(xs=Pr im keep i)) (fun i=>im.length - i) 0 ⟨([]),wg,wn,wn,wi,(by (simp)),(by rfl)⟩ fun I0 hI0 i e H hi0=>?_)
 obtain ⟨xs,E0,g0_0,n0_0,hi,hl0,hx⟩:=hi0
 have Y:=wa Y (wa E0 (wa g0_0 (b5 n0_0)))
 refine dO (fun h3=>?_) fun h3=>?_
 ·have hg:im[i]?.getD 0=im[i]:=by rw [aA h3];rfl
  have Y:=wa Y (wa h3 (aA h3))
  refine wo (h:=bP (fun j e H=>∃ b:Bool,(e 0=dLI im∧e 1=dLI keep∧e 11=dLI im∧e 12=dI im.length∧e 13=dI i∧e 5=.own 0 xs.length∧e 6=dI i∧e 7=dI im[i]∧e 8=.bool b∧e 18=dLI keep∧e 19=dI keep.length∧e 20=dI j)∧(H.get 0=some ⟨3,1,xs.map cI,false⟩)∧(0<H.next)∧(j≤keep.length)∧(b=mem (keep.take j) i)) (fun j=>keep.length - j) 0 ⟨false,wg,wn,wn,wi,(by (simp [pP]))⟩ fun I2 hI2 j e H hi2=>?_)
  obtain ⟨b,E2,g0_2,n0_2,hj,hb⟩:=hi2
  have Y:=wa Y (wa E2 (wa g0_2 (b5 n0_2)))
  refine dO (fun h7=>?_) fun h7=>?_
  ·have Y:=wa Y (wa h7 (aA h7))
   exact wo (h:=wx hI2 (j+1) ⟨((b||keep[j]==(i:Int))),wg,wn,wn,wj,(by (rw [hb,sP _ _ h7];rfl))⟩)
  ·rw [aP (by omega)] at hb
   refine fJ (fun h11=>?_) fun h11=>?_
   ·have hm:mem keep (i:Int)=false:=by rw [← hb];simpa using h11
    obtain ⟨xs2,hxs2⟩:∃ y,y=xs++[im[i]]:=⟨_,rfl⟩
    have Y:=wa Y hxs2
    exact wo (h:=wx hI0 (i+1) ⟨xs2,wg,wn,wn,wj,(by (rw [hxs2];first|omega|(simp;omega))),(by (rw [Gd,hg,hm,← hx,hxs2];simp))⟩)
   ·have hm:mem keep (i:Int)=true:=by rw [← hb];simpa using h11
    obtain ⟨xs2,hxs2⟩:∃ y,y=xs:=⟨_,rfl⟩
    have Y:=wa Y hxs2
    exact wo (h:=wx hI0 (i+1) ⟨xs2,wg,wn,wn,wj,(by (rw [hxs2];first|omega|(simp;omega))),(by (rw [Gd,hg,hm,← hx,hxs2];simp))⟩)
 ·have hX:xs=eL im keep:=by rw [hx,show i=im.length by omega];rfl
  exact wv (h:=hQ _ _ (by simp [go_sem,Y,hX,dLI]))
@[go_sem] theorem UY (l:List Int):nR l 0=0:=rfl
theorem vV (l:List Int)(hl:l.length≤1000):Pure Tryz.prog 24 [dLI l] (dI (nR l l.length)):=by
 refine Tz.pK ⟨fun _=>false,fun _=>[]⟩ Tryz.func24 rfl (fun Q hQ=>?_)
 have Y:=trivial
 refine wo (h:=bP (fun i e H=>(e 0=dLI l∧e 9=dI l.length∧e 10=dI i∧e 3=dI (nR l i))∧(i≤l.length)) (fun i=>l.length - i) 0 ⟨wg,wi⟩ fun I0 hI0 i e H hi0=>?_)
 obtain ⟨E0,hi⟩:=hi0
 have Y:=wa Y E0
 refine dO (fun h3=>?_) fun h3=>?_
 ·have hS:=AB l i
  have hle:=Gt l i
  rw [aA h3,aD] at hS
  have hti:((i:Int)+1).toNat=i+1:=by omega
  obtain ⟨n,hn⟩:∃ n,n=nR l i:=⟨_,rfl⟩
  rw [← hn] at hS hle
  have Y:=wa Y (wa h3 (wa (aA h3) (wa hti (Eq.symm hn))))
  refine wo (h:=aB ((by have hz:=qA (l.take (i+1));unfold dLI at hz;rw [List.map_take] at hz;exact hz)) wl ?_)
  refine fJ (fun h5=>?_) fun h5=>?_
  ·have hm:mem (l.take i) l[i]=false:=by
    rw [bX];intro hm
    have h5':(l.take (i+1)).Nodup:=by simpa using h5
    rw [aF h3,List.nodup_append] at h5'
    exact h5'.2.2 _ ((dA _ _).1 hm) _ (aV.2 rfl) rfl
   rw [if_neg (by rw [hm];simp)] at hS
   have Y:=wa Y hS
   exact wo (h:=wx hI0 (i+1) ⟨wg,wj⟩)
  ·obtain ⟨zs,hzs⟩:∃ zs,zs=l.take i:=⟨_,rfl⟩
   have hzm:(l.map cI).take i=zs.map cI:=by rw [hzs,List.map_take]
   have hzl:zs.length=i:=by rw [hzs];simp;omega
   have Y:=wa Y (wa h5 hzm)
   refine wo (h:=bP (fun j e H=>∃ b:Bool,(e 0=dLI l∧e 9=dI l.length∧e 10=dI i∧e 3=dI n∧e 4=dI i∧e 22=dLI zs∧e 23=dI zs.length∧e 24=dI j∧e 5=.bool b)∧(j≤zs.length)∧(b = !mem (zs.take j) l[i])) (fun j=>zs.length - j) 0 ⟨true,wg,wi,(by (simp [pP]))⟩ fun I2 hI2 j e H hi2=>?_)
   obtain ⟨b,E2,hj,hb⟩:=hi2
   have Y:=wa Y E2
   refine dO (fun h9=>?_) fun h9=>?_
   ·have Y:=wa Y (wa h9 (aA h9))
    exact wo (h:=wx hI2 (j+1) ⟨((b&&zs[j] != l[i])),wg,wj,(by (rw [hb,sP _ _ h9,Bool.not_or];rfl))⟩)
   ·rw [aP (by omega),hzs] at hb
    refine dO (fun h13=>?_) fun h13=>?_
    ·have hm:mem (l.take i) l[i]=false:=by rw [h13] at hb;simpa using hb
     rw [if_neg (by rw [hm];simp)] at hS
     have Y:=wa Y hS
     exact wo (h:=wx hI0 (i+1) ⟨wg,wj⟩)
    ·have hm:mem (l.take i) l[i]=true:=by
      have hbf:b=false:=by simpa using h13
      rw [hbf] at hb;simpa using hb
     rw [if_pos hm] at hS
     have Y:=wa Y hS
     exact wo (h:=wx hI0 (i+1) ⟨wg,wj⟩)
 ·have hie:i=l.length:=by omega
  subst hie
  have Y:=wa Y h3
  exact wv (h:=hQ _ _ wy)
theorem Ht (d:Dr26)(t:Types)(r:Rule)(h:Host)(L:List Mat)(E:Int)(b:Bool)(V:Mat→Stp26)(w:Mat→Int)(hLl:L.length≤1000000)
  (cM:Pure Tryz.prog 22 [.agg d.c] (.tup [t.d,r.d,h.d]))
  (cL:Pure Tryz.prog 18 [t.d,r.d,h.d] (.bool b))
  (cP:b=true→Pure Tryz.prog 19 [t.d,r.d,h.d] (.tup [.list (L.map Mat.c),dI E]))
  (hE:b=true→E=0∨E=3)
  (cA:b=true→E=0→∀ m∈L,Pure Tryz.prog 23 [t.d,r.d,h.d,m.d] (.tup [.agg (V m).c,dI 0]))
  (cV:b=true→E=0→∀ m∈L,Pure Tryz.prog 26 [t.d,(V m).after.d] (.tup [dI (w m),dI 0]))
  (hs:h.graph.nodes.length≤1000∧h.graph.edges.length≤1000∧r.right.graph.nodes.length≤1000∧r.right.graph.edges.length≤1000∧r.keep.nodes.length≤1000∧r.keep.edges.length≤1000)
  (hm:b=true→E=0→∀ m∈L,m.m.nodes.length≤1000∧m.m.edges.length≤1000)
  (hN:b=true→E=0→∀ m∈L,(V m).after.graph.nodes.length+nR (eL m.m.nodes r.keep.nodes) (eL m.m.nodes r.keep.nodes).length+r.keep.nodes.length=h.graph.nodes.length+r.right.graph.nodes.length)
  (hX:b=true→E=0→∀ m∈L,(V m).after.graph.edges.length+nR (eL m.m.edges r.keep.edges) (eL m.m.edges r.keep.edges).length+r.keep.edges.length=h.graph.edges.length+r.right.graph.edges.length) :
  Pure Tryz.prog 5 [.agg d.c] (.bool true):=by
 obtain ⟨s1,s2,s3,s4,s5,s6⟩:=hs
 have hm1:(if (4:Int)<(L.length:Int) then (4:Int) else (L.length:Int))=((min L.length 4:Nat):Int):=by split<;>omega
 obtain ⟨k,hk⟩:∃ m,min L.length 4=m:=⟨_,rfl⟩
 rw [hk] at hm1
 have hk':k≤L.length:=by omega
 obtain ⟨M,hM⟩:∃ M,M=L.take k:=⟨_,rfl⟩
 have hMm:(L.map Mat.c).take k=M.map Mat.c:=by rw [hM,List.map_take]
 have hML:∀ m∈M,m∈L:=fun m hm=>bW (hM ▸ hm)
 have hMl:M.length=k:=by rw [hM,bH];omega
 refine Tz.pK ⟨fun t=>t==3||t==4||t==5||t==9||t==10,fun _=>[]⟩ Tryz.func5 rfl (fun Q hQ=>?_)
 have Y:=wa @Dr26.c.eq_1 (wa @Dr24.c.eq_1 (wa @Dr15.c.eq_1 (wa @Host.d.eq_1 (wa @Host.c.eq_1 (wa @Mat.d.eq_1 (wa @Mat.c.eq_1 (wa @Rule.d.eq_1 (wa @Rule.c.eq_1 (wa @Stp26.c.eq_1 (wa hm1 hMm))))))))))
 refine Ab (h:=aB (xL) wl ?_)
 refine Ab (h:=aB ((by have hz:=cM;simp only [Dr26.c,Dr24.c,Dr15.c,eQ,eJ] at hz;unfold Rule.d Host.d at hz;exact hz)) wl ?_)
 refine Ab (h:=aB (cL) wl ?_)
 refine Ab (h:=wq (fun h4=>?_) fun h4=>?_)
 ·have Y:=wa Y h4
  exact G3 (h:=hQ _ _ wy)
 ·have hb:b=true:=by cases hbb:b<;>simp [hbb] at h4 ⊢
  refine G3 (h:=aB (cP hb) wl ?_)
  refine G3 (h:=wq (fun h7=>?_) fun h7=>?_)
  ·have hE3:E=3:=by rcases hE hb with h|h;exact absurd h (by simpa using h7);exact h
   have Y:=wa Y hE3
   have Y:=wa Y (wa h4 h7)
   exact G3 (h:=hQ _ _ wy)
  ·have hE0:E=0:=by simpa using h7
   refine Ab (h:=bP (fun i e H=>(e 1=.adr d.c∧e 3=.ptr 0 1 0 0∧e 4=.ptr 1 1 0 0∧e 5=.ptr 2 1 0 0∧e 44=.list (M.map Mat.c)∧e 45=dI M.length∧e 46=dI i)∧(H.get 0=some ⟨32,2,[t.c],false⟩)∧(0<H.next)∧(H.get 1=some ⟨61,25,[r.c],false⟩)∧(1<H.next)∧(H.get 2=some ⟨40,3,[h.c],false⟩)∧(2<H.next)∧(i≤M.length)) (fun i=>M.length - i) 0 ⟨wg,wn,wn,wn,wn,wn,wn,wi⟩ fun I0 hI0 i e H hi0=>?_)
   obtain ⟨E0,g0_0,n0_0,g1_0,n1_0,g2_0,n2_0,hi⟩:=hi0
   have Y:=wa Y (wa E0 (wa g0_0 (wa (b5 n0_0) (wa g1_0 (wa (b5 n1_0) (wa g2_0 (b5 n2_0)))))))
   refine G3 (h:=wq (fun h10=>?_) fun h10=>?_)
   ·have hmm:=hML _ (aC h10)
    obtain ⟨m1,m2⟩:=hm hb hE0 _ hmm
    have n1:=hN hb hE0 _ hmm
    have n2:=hX hb hE0 _ hmm
    have g1:=Pp M[i].m.nodes r.keep.nodes
    have g2:=Pp M[i].m.edges r.keep.edges
    have f1:=Gt (eL M[i].m.nodes r.keep.nodes) (eL M[i].m.nodes r.keep.nodes).length
    have f2:=Gt (eL M[i].m.edges r.keep.edges) (eL M[i].m.edges r.keep.edges).length
    have z1:((V M[i]).after.graph.nodes.length:Int)=(h.graph.nodes.length:Int) - nR (eL M[i].m.nodes r.keep.nodes) (eL M[i].m.nodes r.keep.nodes).length+r.right.graph.nodes.length - r.keep.nodes.length:=by omega
    have z2:((V M[i]).after.graph.edges.length:Int)=(h.graph.edges.length:Int) - nR (eL M[i].m.edges r.keep.edges) (eL M[i].m.edges r.keep.edges).length+r.right.graph.edges.length - r.keep.edges.length:=by omega
    have Y:=wa Y (wa h10 (wa (aA h10) (wa z1 z2)))
    refine Ab (h:=aB (cA hb hE0 M[i] (hML _ (aC h10))) wl ?_)
    refine Ab (h:=aQ (zZ M[i].m.nodes r.keep.nodes (by omega) (by omega)) wl ?_)
    refine Ab (h:=aQ (vV (eL M[i].m.nodes r.keep.nodes) (by omega)) wl ?_)
    refine Ab (h:=aQ (zZ M[i].m.edges r.keep.edges (by omega) (by omega)) wl ?_)
    refine Ab (h:=aQ (vV (eL M[i].m.edges r.keep.edges) (by omega)) wl ?_)
    refine Ab (h:=aB (cV hb hE0 M[i] (hML _ (aC h10))) wl ?_)
    exact Ab (h:=wx hI0 (i+1) ⟨wg,wn,wn,wn,wn,wn,wn,wj⟩)
   ·have Y:=wa Y (wa h4 (wa h7 h10))
    exact G3 (h:=hQ _ _ wy)
theorem xH {t:Types}(h:MadeTy t):∀ n∈t.nodes,n.attrs.length≤1000000000000000:=fun n hn=>c6 (h.fine.ok.nodes n hn).few (by omega)
theorem AL {t:Types}{r:Rule}{h:Host}(ht:t.ok)(hr:r.ok){m:Mat}(hm:m∈(n7 t r h).1):Pure Tryz.prog 23 [t.d,r.d,h.d,m.d] (.tup [.agg (sK t r h m).c,dI 0]):=by
 obtain ⟨h1,h2⟩:=BU hm
 have hA:HF t r h m=0:=by unfold HF;rw [if_neg (by rw [h1];simp),h2]
 exact Ji t ht r hr h m (by unfold vO;rw [if_pos hA]) hA.symm
theorem CJ (d:Dr26):Pure Tryz.prog 5 [.agg d.c] (.bool true):=by
 have hT:MadeTy (pG d):=JK _ _
 have hr0:ruleF (pG d) (pM d)=0:=xI hT _
 have hh0:fR (pG d) (o7 d)=0:=xJ hT _
 have hrl:(pM d).le:=CG _ _
 have hg:=CO (t:=pG d) (r:=pM d) (h:=o7 d)
 have hO:light26 (pG d) (pM d) (o7 d)=true→(pM d).ok:=fun hb=>(Aq hb).2
 have hK:light26 (pG d) (pM d) (o7 d)=true→∀ m∈(n7 (pG d) (pM d) (o7 d)).1,StepOk (pG d) (pM d) (o7 d) m:=fun hb m hm=>No (HW (hO hb) hr0) (qO hh0) (BU hm).2
 have hH:=qO hh0
 have hle:=cC hH.gg
 have hL0:=JM hr0
 have hRr:graphF (pM d).right.graph=0∧graphF (pM d).left.graph=0∧subF (pM d).left.graph (pM d).keep=0:=by
  have C:=J1 hT (nS d.rule)
  unfold pM lV
  split
  ·exact ⟨C.gR,C.g0,C.sub⟩
  ·exact ⟨C.gR,C.g0,C.sub⟩
 have q1:=cC hRr.1
 have q2:=cC hRr.2.1
 have q3:=Nk hRr.2.2
 refine Ht d (pG d) (pM d) (o7 d) (n7 (pG d) (pM d) (o7 d)).1 (n7 (pG d) (pM d) (o7 d)).2 (light26 (pG d) (pM d) (o7 d)) (sK (pG d) (pM d) (o7 d)) (fun m=>(vW (pG d) (fO (pG d) (pM d) (o7 d) m)).1)
  (by have:=Kf (pG d) (pM d) (o7 d);omega) (Ag d) (uS _ (xH hT) _ hrl _) (fun hb=>l7 _ hT.fine.ok _ (hO hb) _) (fun hb=>CC (hO hb) hr0 hh0)
  (fun hb _ m hm=>AL hT.fine.ok (hO hb) hm) (fun hb _ m hm=>?_) (by omega) (fun hb _ m hm=>?_) (fun hb _ m hm=>(hK hb m hm).S.cntN) (fun hb _ m hm=>(hK hb m hm).S.cntE)
 ·have hq:=u4 (pG d) hT.fine.ok (fO (pG d) (pM d) (o7 d) m)
  have ha:=(hK hb m hm).after
  unfold fR at ha
  rw [ha] at hq
  exact hq
 ·have S:=(hK hb m hm).S
  have h1:=S.hm.len
  have h2:=S.hm.elen
  omega
end Go.Abs
end
section
namespace Go.Proofs.YtjfaalokjnmdoaaGreat.bulks
open Go.Abs
theorem one_le {H:Type}(d:DataW H):1≤Rows.uptoBulk d:=by
 cases d with
 | lit l=>cases l<;>simp [Rows.uptoBulk]
 | _=>simp [Rows.uptoBulk]
theorem mem_le {H:Type}{d:DataW H}:∀ {l:List (DataW H)},d∈l→Rows.uptoBulk d≤Rows.uptoBulkAll l
 | [],h=>by cases h
 | x :: r,h=>by
  simp only [Rows.uptoBulkAll]
  rcases bM.1 h with rfl|h
  ·omega
  ·have:=mem_le h;omega
theorem len_le {H:Type}:∀ l:List (DataW H),l.length≤Rows.uptoBulkAll l
 | []=>by simp [Rows.uptoBulkAll]
 | x :: r=>by have:=one_le x;have:=len_le r;simp only [Rows.uptoBulkAll,eH];omega
theorem ok {H:Type}:Go.Abs.Bulk (Rows.uptoBulk (H:=H)) where
 len e s:=by have:=len_le e;simp only [Rows.uptoBulk];omega
 el e s d h:=by have:=mem_le h;simp only [Rows.uptoBulk];omega
 part l d h:=by have:=mem_le h;simp only [Rows.uptoBulk];omega
 str s:=by simp [Rows.uptoBulk]
theorem bound {H:Type}{l:List (DataW H)}(hk:Rows.uptoSmall H l=true):∀ d∈l,Rows.uptoBulk d≤1048576:=fun d hd=>by
 have h:=of_decide_eq_true hk
 have:=mem_le hd
 omega
end Go.Proofs.YtjfaalokjnmdoaaGreat.bulks
end
section
set_option maxRecDepth 100000
set_option maxHeartbeats 4000000
open Go Go.Proofs
namespace Go.Abs
section
variable {H:Type} {enc:TypeId × Value→H} {P:Program} {w:World} {base:Nat} {spare:Nat→Bool} {held:Bool} {bulk:DataW H→Nat} {B:Nat} {n:Nat} {t:TypeId}
theorem KU {fuel:Nat}{cs:List Value}{e:TypeId}:∀ (k o:Nat),cs.length=(o+k) * P.cellsOf e →
  (∀ i,o≤i→i<o+k→∃ y,DataW.trod enc P w base spare held fuel e ((cs.drop (i * P.cellsOf e)).take (P.cellsOf e))=some y∧bulk y.1≤B)→Tu enc P w base spare held bulk B fuel (List.replicate k e) (cs.drop (o * P.cellsOf e))
 | 0,o,hl,_=>by
  show cs.drop _=[]
  rw [List.drop_eq_nil_iff,hl];simp
 | k+1,o,hl,h=>by
  rw [rD]
  refine ⟨h o (aY _) (by omega),?_⟩
  rw [List.drop_drop,show o * P.cellsOf e+P.cellsOf e=(o+1) * P.cellsOf e by rw [Nat.succ_mul]]
  exact KU k (o+1) (by rw [hl];congr 1;omega) fun i h1 h2=>h i (by omega) (by omega)
theorem rU (hB:Bulk bulk){k:Nat}{e:TypeId}(ht:P.underlying t=some (.array k e))(hc:P.cellsOf t=k * P.cellsOf e){α:Type}{C:α→List D}{G:α→Prop}(h:G0 enc P w base spare held bulk B n (List.replicate k e) C G) :
  Opens enc P w base spare held bulk B (n+1) t C G:=fun fuel cs x hf hx hb=>by
 obtain ⟨xs,m,rfl,rfl,hcl,hxl,hfl⟩:=DataW.trod_array ht hx
 simp only at hb
 have hs:=KU (enc:=enc) (P:=P) (w:=w) (base:=base) (spare:=spare) (held:=held) (bulk:=bulk) (B:=B) (fuel:=m) (cs:=cs) (e:=e) k 0 (by rw [hcl,hc];simp) fun i _ hi=>by
  have hfi:=hfl i (by omega)
  rw [aA (by omega)] at hfi
  exact ⟨_,hfi,c6 (hB.part _ _ (aT.2 ⟨_,aC (by omega),rfl⟩)) hb⟩
 rw [Nat.zero_mul,List.drop_zero] at hs
 exact h m cs (by omega) hs
theorem RA (ht:P.underlying t=some (.int .u8)):Opens enc P w base spare held bulk B n t cU (fun _=>True):=fun fuel cs x _ hx _=>by
 obtain ⟨z,rfl,_,hw⟩:=DataW.trod_int ht hx
 refine ⟨UInt8.ofNat z.toNat,trivial,?_,by simp [Value.oneCell']⟩
 have hz:0≤z∧z<256:=by
  have h1:IntKind.u8.min=0:=by decide
  have h2:IntKind.u8.max=255:=by decide
  simp only [Lit.wf,aJ,decide_eq_true_eq,h1,h2] at hw;omega
 have he:(((UInt8.ofNat z.toNat).toNat:Nat):Int)=z:=by simp;omega
 unfold cU;rw [he];exact mT (.int .u8 z)
theorem RB (ht:P.underlying t=some (.int .i8)):Opens enc P w base spare held bulk B n t (fun x:Int8=>[D.int .i8 x.toInt]) (fun _=>True):=fun fuel cs x _ hx _=>by
 obtain ⟨z,rfl,_,hw⟩:=DataW.trod_int ht hx
 refine ⟨Int8.ofInt z,trivial,?_,by simp [Value.oneCell']⟩
 have hz : -128≤z∧z<128:=by
  have h1:IntKind.i8.min = -128:=by decide
  have h2:IntKind.i8.max=127:=by decide
  simp only [Lit.wf,aJ,decide_eq_true_eq,h1,h2] at hw;omega
 have he:(Int8.ofInt z).toInt=z:=by rw [Int8.toInt_ofInt_of_le]<;>omega
 show RepL LQ gC o6 w _ [D.int .i8 (Int8.ofInt z).toInt]
 rw [he];exact mT (.int .i8 z)
theorem Qj (ht:P.underlying t=some (.int .u64)):Opens enc P w base spare held bulk B n t (fun x:UInt64=>[D.int .u64 (x.toNat:Int)]) (fun _=>True):=fun fuel cs x _ hx _=>by
 obtain ⟨z,rfl,_,hw⟩:=DataW.trod_int ht hx
 refine ⟨UInt64.ofNat z.toNat,trivial,?_,by simp [Value.oneCell']⟩
 have hz:0≤z∧z<18446744073709551616:=by
  have h1:IntKind.u64.min=0:=by decide
  have h2:IntKind.u64.max=18446744073709551615:=by decide
  simp only [Lit.wf,aJ,decide_eq_true_eq,h1,h2] at hw;omega
 have he:(((UInt64.ofNat z.toNat).toNat:Nat):Int)=z:=by simp;omega
 show RepL LQ gC o6 w _ [D.int .u64 (((UInt64.ofNat z.toNat).toNat:Nat):Int)]
 rw [he];exact mT (.int .u64 z)
end
section
variable {H:Type} {enc:TypeId × Value→H} {w:World} {base:Nat} {spare:Nat→Bool} {held:Bool} {bulk:DataW H→Nat} {B:Nat}
theorem ZR:∀ n,Opens enc Tryz.prog w base spare held bulk B n 4 (fun b:Bool=>[D.bool b]) (fun _=>True):=fun n=>NU Tryz.underlying4
theorem Sx:∀ n,Opens enc Tryz.prog w base spare held bulk B n 5 cU (fun _=>True):=fun n=>RA Tryz.underlying5
theorem Pd:∀ n,Opens enc Tryz.prog w base spare held bulk B n 321 (fun x:Int8=>[D.int .i8 x.toInt]) (fun _=>True):=fun n=>RB Tryz.underlying321
theorem Zm:∀ n,Opens enc Tryz.prog w base spare held bulk B n 81 (fun x:UInt64=>[D.int .u64 (x.toNat:Int)]) (fun _=>True):=fun n=>Qj Tryz.underlying81
theorem WF (hB:Bulk bulk):∀ n,Opens enc Tryz.prog w base spare held bulk B n 180 cP (fun _=>True)
 | 0=>Opens.zero
 | n+1=>(rU hB (k:=2) Tryz.underlying180 (by kernel_rfl) (bV (Sx n) (bV (Sx n) (jW)))).map (fun p=>(p.1,p.2.1)) (fun p=>rfl) (fun _ _=>trivial)
theorem WE (hB:Bulk bulk):∀ n,Opens enc Tryz.prog w base spare held bulk B n 192 cT3 (fun _=>True)
 | 0=>Opens.zero
 | n+1=>(rU hB (k:=3) Tryz.underlying192 (by kernel_rfl) (bV (Sx n) (bV (Sx n) (bV (Sx n) (jW))))).map (fun p=>(p.1,p.2.1,p.2.2.1)) (fun p=>rfl) (fun _ _=>trivial)
theorem Zl (hB:Bulk bulk):∀ n,Opens enc Tryz.prog w base spare held bulk B n 82 cU4 (fun _=>True)
 | 0=>Opens.zero
 | n+1=>(rU hB (k:=4) Tryz.underlying82 (by kernel_rfl) (bV (Sx n) (bV (Sx n) (bV (Sx n) (bV (Sx n) (jW)))))).map (fun p=>(p.1,p.2.1,p.2.2.1,p.2.2.2.1)) (fun p=>rfl) (fun _ _=>trivial)
theorem WD (hB:Bulk bulk):∀ n,Opens enc Tryz.prog w base spare held bulk B n 322 cT4 (fun _=>True)
 | 0=>Opens.zero
 | n+1=>(rU hB (k:=4) Tryz.underlying322 (by kernel_rfl) (bV (Pd n) (bV (Pd n) (bV (Pd n) (bV (Pd n) (jW)))))).map (fun p=>(p.1,p.2.1,p.2.2.1,p.2.2.2.1)) (fun p=>rfl) (fun _ _=>trivial)
theorem Uv (hB:Bulk bulk):∀ n,Opens enc Tryz.prog w base spare held bulk B n 22 (fun l:List B2=>[D.list (l.map cP)]) (fun _=>True)
 | 0=>Opens.zero
 | n+1=>(rT hB Tryz.underlying22 (WF hB n)).map id (fun _=>rfl) (fun _ _=>trivial)
theorem RC (hB:Bulk bulk):∀ n,Opens enc Tryz.prog w base spare held bulk B n 24 (fun l:List B3=>[D.list (l.map cT3)]) (fun _=>True)
 | 0=>Opens.zero
 | n+1=>(rT hB Tryz.underlying24 (WE hB n)).map id (fun _=>rfl) (fun _ _=>trivial)
theorem Uu (hB:Bulk bulk):∀ n,Opens enc Tryz.prog w base spare held bulk B n 75 (fun l:List UInt8=>[D.list (l.map cU)]) (fun _=>True)
 | 0=>Opens.zero
 | n+1=>(rT hB Tryz.underlying75 (Sx n)).map id (fun _=>rfl) (fun _ _=>trivial)
theorem Zo (hB:Bulk bulk):∀ n,Opens enc Tryz.prog w base spare held bulk B n 78 (fun l:List T4=>[D.list (l.map cT4)]) (fun _=>True)
 | 0=>Opens.zero
 | n+1=>(rT hB Tryz.underlying78 (WD hB n)).map id (fun _=>rfl) (fun _ _=>trivial)
theorem Zp (hB:Bulk bulk):∀ n,Opens enc Tryz.prog w base spare held bulk B n 77 Dr5.c (fun _=>True)
 | 0=>Opens.zero
 | n+1=>(mU hB Tryz.underlying77 (by kernel_rfl) (bV (Uu hB n) (bV (RC hB n) (jW)))).map (fun p=>⟨p.1,p.2.1⟩) (fun p=>rfl) (fun _ _=>trivial)
theorem Zn (hB:Bulk bulk):∀ n,Opens enc Tryz.prog w base spare held bulk B n 80 Dr21.c (fun _=>True)
 | 0=>Opens.zero
 | n+1=>(mU hB Tryz.underlying80 (by kernel_rfl) (bV (Zp hB n) (bV (RC hB n) (bV (Zo hB n) (jW))))).map (fun p=>⟨p.1,p.2.1,p.2.2.1⟩) (fun p=>rfl) (fun _ _=>trivial)
theorem Zk (hB:Bulk bulk):∀ n,Opens enc Tryz.prog w base spare held bulk B n 84 Dr24.c (fun _=>True)
 | 0=>Opens.zero
 | n+1=>(mU hB Tryz.underlying84 (by kernel_rfl) (bV (Zn hB n) (bV (Zm n) (bV (Uu hB n) (bV (RC hB n) (bV (RC hB n) (bV (ZR n) (bV (ZR n) (bV (Zl hB n) (bV (Uu hB n) (jW))))))))))).map (fun p=>⟨p.1,p.2.1,p.2.2.1,p.2.2.2.1,p.2.2.2.2.1,p.2.2.2.2.2.1,p.2.2.2.2.2.2.1,p.2.2.2.2.2.2.2.1,p.2.2.2.2.2.2.2.2.1⟩) (fun p=>rfl) (fun _ _=>trivial)
theorem Zq (hB:Bulk bulk):∀ n,Opens enc Tryz.prog w base spare held bulk B n 26 Dr15.c (fun _=>True)
 | 0=>Opens.zero
 | n+1=>(mU hB Tryz.underlying26 (by kernel_rfl) (bV (Uv hB n) (bV (RC hB n) (jW)))).map (fun p=>⟨p.1,p.2.1⟩) (fun p=>rfl) (fun _ _=>trivial)
end
section
variable {H:Type} {enc:TypeId × Value→H} {w:World} {base:Nat} {spare:Nat→Bool} {held:Bool} {bulk:DataW H→Nat} {B:Nat}
theorem Ut (hB:Bulk bulk):∀ n,Opens enc Tryz.prog w base spare held bulk B n 86 Dr26.c (fun _=>True)
 | 0=>Opens.zero
 | n+1=>(mU hB Tryz.underlying86 (by kernel_rfl) (bV (Uv hB n) (bV (Uv hB n) (bV (Zk hB n) (bV (Zq hB n) (jW)))))).map (fun p=>⟨p.1,p.2.1,p.2.2.1,p.2.2.2.1⟩) (fun p=>by simp [Dr26.c]) (fun _ _=>trivial)
end
end Go.Abs
end
