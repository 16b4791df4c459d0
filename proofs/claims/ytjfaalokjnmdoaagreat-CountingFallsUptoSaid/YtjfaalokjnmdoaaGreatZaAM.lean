/- The bounds that the laws set. · The bound on types. · Layer  -/
import Derived.Test.YtjfaalokjnmdoaaGreatZaAF
import Derived.Test.YtjfaalokjnmdoaaGreatZaAL
import Derived.Test.YtjfaalokjnmdoaaGreatZaAA
set_option linter.unusedVariables false
set_option linter.unusedSimpArgs false
section
set_option maxRecDepth 100000
set_option maxHeartbeats 4000000
open Go Go.Proofs
namespace Go.Abs
def fewG (g:Graph):Bool:=decide ((g.nodes.length:Int)≤45)&&decide ((g.edges.length:Int)≤90)
def fewP (p:Pattern):Bool:=fewG p.graph&&decide ((p.slots.length:Int)≤15)&&decide ((p.tests.length:Int)≤15)
def fewPart (p:Part)(n:Int):Bool:=decide ((p.nodes.length:Int)+p.edges.length≤n)
structure Part.le (p:Part):Prop where
 n:p.nodes.length≤1000000000000000
 e:p.edges.length≤1000000000000000
theorem yD (g:Graph):Pure Tryz.prog 179 [g.d] (.bool (fewG g)):=by
 refine Tz.pK ⟨fun _=>false,fun _=>[]⟩ Tryz.func179 rfl (fun Q hQ=>?_)
 have Y:=trivial
 have Y:=wa Y @fewG.eq_1
 exact wo (h:=hQ _ _ wy)
theorem tJ (p:Pattern):Pure Tryz.prog 123 [p.d] (.bool (fewP p)):=by
 refine Tz.pK ⟨fun _=>false,fun _=>[]⟩ Tryz.func123 rfl (fun Q hQ=>?_)
 have Y:=trivial
 refine wo (h:=aC (yD p.graph) wl ?_)
 have Y:=wa Y @fewP.eq_1
 exact wo (h:=hQ _ _ wy)
theorem Ia (p:Part)(hp:p.le)(n:Int):Pure Tryz.prog 81 [p.d,dI n] (.bool (fewPart p n)):=by
 obtain ⟨h1,h2⟩:=hp
 refine Tz.pK ⟨fun _=>false,fun _=>[]⟩ Tryz.func81 rfl (fun Q hQ=>?_)
 have Y:=trivial
 have Y:=wa Y @fewPart.eq_1
 exact wo (h:=hQ _ _ wy)
theorem Qd (p:Part)(hp:p.le)(n:Int):Pure Tryz.prog 124 [p.d,dI n] (.bool (fewPart p n)):=by
 obtain ⟨h1,h2⟩:=hp
 refine Tz.pK ⟨fun _=>false,fun _=>[]⟩ Tryz.func124 rfl (fun Q hQ=>?_)
 have Y:=trivial
 have Y:=wa Y @fewPart.eq_1
 exact wo (h:=hQ _ _ wy)
mutual
def nP:Cond→Int→Int
 | .mk k l m p,b=>if (!fewP p||!fewPart m 140)=true then -1 else nO l (b - 1)
def nO:List Cond→Int→Int
 | [],b=>b
 | c :: l,b=>if 0≤b then nO l (nP c b) else b
end
theorem R3 (c:Cond)(b:Int):nP c b=if (!fewP c.pattern||!fewPart c.map 140)=true then -1 else nO c.kids (b - 1):=by cases c;rw [nP];rfl
mutual
theorem Fx:∀ (c:Cond) (b:Int),0≤b→-1≤nP c b∧nP c b≤b - 1
 | .mk k l m p,b,h=>by
  rw [nP];split
  ·omega
  ·exact Fv l (b - 1) (by omega)
theorem Fv:∀ (l:List Cond) (b:Int),-1≤b→-1≤nO l b∧nO l b≤b
 | [],b,h=>by rw [nO];omega
 | c :: l,b,h=>by
  rw [nO];split
  ·rename_i h0
   have h1:=Fx c b h0
   have h2:=Fv l (nP c b) h1.1
   omega
  ·omega
end
mutual
def Cond.le:Cond→Prop
 | .mk k l m p=>m.le∧Cond.les l
def Cond.les:List Cond→Prop
 | []=>True
 | c :: l=>c.le∧Cond.les l
end
theorem Ku (l:List Cond):Cond.les l↔∀ c∈l,c.le:=by
 induction l with
 | nil=>simp [Cond.les]
 | cons a l ih=>simp [Cond.les,ih]
theorem M4 (c:Cond):c.le↔c.map.le∧∀ k∈c.kids,k.le:=by cases c;simp [Cond.le,Ku,Cond.kids,Cond.map]
mutual
theorem Fw:∀ (c:Cond) (b:Int),0≤b→0≤nP c b→c.ok∧(c.size:Int)≤b - nP c b
 | .mk k l m p,b,h,h0=>by
  rw [nP] at h0 ⊢
  split at h0
  ·omega
  ·rename_i h1
   rw [if_neg h1]
   have h2:=L6 l (b - 1) (by omega) h0
   simp [fewP,fewG,fewPart] at h1
   refine ⟨⟨⟨?_,?_,?_,?_,?_,?_⟩,h2.1⟩,?_⟩<;>simp only [Cond.map,Cond.pattern,Cond.size]<;>omega
theorem L6:∀ (l:List Cond) (b:Int),-1≤b→0≤nO l b→Cond.oks l∧(Cond.sizes l:Int)≤b - nO l b
 | [],b,h,h0=>by simp [Cond.oks,Cond.sizes,nO]
 | c :: l,b,h,h0=>by
  rw [nO] at h0 ⊢
  split at h0
  ·rename_i hb
   rw [if_pos hb]
   have h1:=Fx c b hb
   have h2:=Fv l (nP c b) h1.1
   have h3:=Fw c b hb (by omega)
   have h4:=L6 l (nP c b) h1.1 h0
   refine ⟨⟨h3.1,h4.1⟩,?_⟩
   simp only [Cond.sizes];omega
  ·omega
end
theorem Od {l:List Cond}{i:Nat}(h:i<l.length){b:Int}(hb:0≤b):nO (l.drop i) b=nO (l.drop (i+1)) (nP l[i] b):=by
 rw [cX h,nO,if_pos hb]
theorem QC {l:List Cond}{i:Nat}{b:Int}(h:¬ (i<l.length∧0≤b)):nO (l.drop i) b=b:=by
 by_cases hi:i<l.length
 ·rw [cX hi,nO,if_neg (by omega)]
 ·rw [eQ (by omega),nO]
theorem NM:∀ c:Cond,c.le→∀ b:Int,0≤b→b≤1000→Pure Tryz.prog 208 [.agg c.c,dI b] (dI (nP c b)):=by
 refine kY fun c ih hc b0 hb0 hb1=>?_
 obtain ⟨hs,hk⟩:=(M4 c).1 hc
 have hL0:=R3 c b0
 refine Tz.pK ⟨fun _=>false,fun _=>[]⟩ Tryz.func208 rfl (fun Q hQ=>?_)
 have Y:=@Cond.c_eq
 refine wo (h:=aC (tJ c.pattern) wl ?_)
 refine wo (h:=aN (fun hg=>Ia c.map hs 140) (fun hg=>wl) ?_)
 refine wv (h:=?_)
 repeat first|intro _|refine ⟨d8,?_⟩
 refine wq (fun h2=>?_) fun h2=>?_
 ·rw [if_pos (by simpa using h2)] at hL0
  exact wv (h:=hQ _ _ (by simp [go_sem,hL0]))
 ·rw [if_neg (by simpa using h2)] at hL0
  refine wv (h:=bG (fun i e H=>∃ b:Int,(e 2=.adr c.c∧e 1=dI b∧e 5=dI i)∧(i≤c.kids.length)∧(-1≤b∧b<b0)∧(nO (c.kids.drop i) b=nP c b0)) (fun i=>c.kids.length - i) 0 ⟨((b0 - 1)),wg,wi,(by omega),(by (exact hL0.symm))⟩ fun I0 hI0 i e H hi0=>?_)
  obtain ⟨b,E0,hi,hb,hL⟩:=hi0
  have Y:=wa Y E0
  refine wv (h:=?_)
  repeat first|intro _|refine ⟨d8,?_⟩
  refine wq (fun h5=>?_) fun h5=>?_
  ·have h5':i<c.kids.length∧0≤b:=by omega
   have Y:=wa Y (wa h5 h5'.1)
   refine wo (h:=aC ((by have:=ih _ (aB h5'.1) (hk _ (aB h5'.1)) b h5'.2 (by omega);rwa [Cond.c_eq] at this)) wl ?_)
   exact wo (h:=wx hI0 (i+1) ⟨(nP c.kids[i] b),wg,wj,(by (have:=Fx c.kids[i] b h5'.2;omega)),(by (rw [← hL,Od h5'.1 h5'.2]))⟩)
  ·have h5':¬ (i<c.kids.length∧0≤b):=by omega
   refine wv (h:=?_)
   have hE:nP c b0=b:=by rw [← hL,QC h5']
   exact hQ _ _ (by simp [go_sem,hE])
def fewC (c:Cond):Bool:=decide (0≤nP c 40)
theorem H7 (c:Cond)(hc:c.le):Pure Tryz.prog 125 [.agg c.c] (.bool (fewC c)):=by
 refine Tz.pK ⟨fun _=>false,fun _=>[]⟩ Tryz.func125 rfl (fun Q hQ=>?_)
 have Y:=@Cond.c_eq
 refine wv (h:=aC ((by have:=NM c hc 40 (by omega) (by omega);rwa [Cond.c_eq] at this)) wl ?_)
 have Y:=wa Y @fewC.eq_1
 exact wv (h:=hQ _ _ wy)
def fewR (r:Rule):Bool:=decide ((r.name.size:Int)≤60)&&fewP r.left&&fewP r.right&&fewPart r.keep 140&&fewPart r.into 140&&fewC r.cond
structure Rule.le (r:Rule):Prop where
 keep:r.keep.le
 into:r.into.le
 cond:r.cond.le
theorem H6 (r:Rule)(hr:r.le):Pure Tryz.prog 60 [r.d] (.bool (fewR r)):=by
 refine Tz.pK ⟨fun _=>false,fun _=>[]⟩ Tryz.func60 rfl (fun Q hQ=>?_)
 have Y:=trivial
 refine wo (h:=aN (fun hg=>tJ r.left) (fun hg=>wl) ?_)
 refine wo (h:=aN (fun hg=>tJ r.right) (fun hg=>wl) ?_)
 refine wo (h:=aN (fun hg=>Qd r.keep hr.keep 140) (fun hg=>wl) ?_)
 refine wo (h:=aN (fun hg=>Ia r.into hr.into 140) (fun hg=>wl) ?_)
 refine wo (h:=aN (fun hg=>(by have:=H7 r.cond hr.cond;rwa [Cond.c_eq] at this)) (fun hg=>wl) ?_)
 have Y:=wa Y @fewR.eq_1
 exact wo (h:=hQ _ _ wy)
def qX (rs:List Rule):Bool:=decide ((rs.length:Int)≤8)&&!(rs.any fun r=>!fewR r)
theorem P9 (rs:List Rule)(hr:∀ r∈rs,r.le):Pure Tryz.prog 104 [.list (rs.map Rule.c)] (.bool (qX rs)):=by
 refine Tz.pK ⟨fun _=>false,fun _=>[]⟩ Tryz.func104 rfl (fun Q hQ=>?_)
 have Y:=trivial
 refine eJ (fun h1=>?_) fun h1=>?_
 ·refine wv (h:=?_)
  have hb:qX rs=false:=by simp [qX];omega
  exact hQ _ _ (.inl (by simp [go_sem,hb]))
 ·refine wv (h:=bG (fun i e H=>(e 0=.list (rs.map Rule.c)∧e 3=dI i)∧(i≤rs.length)∧(((rs.take i).any fun r=>!fewR r)=false)) (fun i=>rs.length - i) 0 ⟨wg,wi,(by rfl)⟩ fun I0 hI0 i e H hi0=>?_)
  obtain ⟨E0,hi,ha⟩:=hi0
  have Y:=wa Y E0
  refine eJ (fun h4=>?_) fun h4=>?_
  ·have Y:=wa Y h4
   refine wo (h:=aC (H6 rs[i] (hr _ (aB h4))) wl ?_)
   refine eJ (fun h6=>?_) fun h6=>?_
   ·refine wv (h:=?_)
    have hb:(rs.any fun r=>!fewR r)=true:=List.any_eq_true.2 ⟨_,aB h4,by simp [h6]⟩
    exact hQ _ _ (.inl (by simp only [go_sem,qX,hb,mI,DD]))
   ·exact wo (h:=wx hI0 (i+1) ⟨wg,wj,(by (rw [cC _ _ _ h4,ha];simp [h6]))⟩)
  ·have hN:=iO ha h4
   refine wv (h:=?_)
   have h8:decide ((rs.length:Int)≤8)=true:=by simp;omega
   exact hQ _ _ (.inl (by simp only [go_sem,qX,hN,h8,p8,zS]))
def iN (s:ByteArray):Bool:=decide (40<(s.size:Int))
def sG (x:Attr):Bool:=iN x.name||decide (25<(x.names.length:Int))||x.names.any iN
def oB (n:NodeTy):Bool:=iN n.name||n.attrs.any sG
def yP (x:EdgeTy):Bool:=iN x.name
def gP (l:List NodeTy):Nat:=(l.map fun n=>n.attrs.length).sum
def nZ (t:Types):Bool:=decide ((t.nodes.length:Int)≤20)&&decide ((t.edges.length:Int)≤30)&&decide (gP t.nodes≤30)&&!(t.nodes.any oB)&&!(t.edges.any yP)
@[go_sem,simp] theorem Ug:gP []=0:=rfl
theorem Ki (l:List NodeTy){i:Nat}(h:i<l.length):gP (l.take (i+1))=gP (l.take i)+l[i].attrs.length:=by
 unfold gP
 rw [aF h,List.map_append,List.sum_append];simp
theorem OT (l:List NodeTy)(i:Nat):gP (l.take i)≤gP l:=by
 have:gP l=gP (l.take i)+gP (l.drop i):=by
  unfold gP
  rw [← List.sum_append,← List.map_append,List.take_append_drop]
 omega
theorem Q3 {l:List NodeTy}{n:NodeTy}(h:n∈l):n.attrs.length≤gP l:=by
 induction l with
 | nil=>cases h
 | cons a l ih =>
  have e:gP (a :: l)=a.attrs.length+gP l:=by simp [gP]
  rcases bB.1 h with rfl|h
  ·omega
  ·have:=ih h;omega
theorem J7 {t:Types}(h:nZ t=true):t.ok:=by
 simp [nZ] at h
 obtain ⟨⟨⟨⟨h1,h2⟩,h3⟩,h4⟩,h5⟩:=h
 refine ⟨fun n hn=>?_,fun x hx=>⟨?_⟩,by omega,by omega⟩
 ·have hl:=Q3 hn
  have:=h4 n hn
  simp [oB,iN] at this
  refine ⟨by omega,fun x hx=>?_,by omega⟩
  have hb:=this.2 x hx
  simp [sG,iN] at hb
  refine ⟨by omega,fun s hs=>?_,by omega⟩
  have:=hb.2 s hs
  omega
 ·have:=h5 x hx
  simp [yP,iN] at this
  omega
theorem B6 (t:Types)(ht:∀ n∈t.nodes,n.attrs.length≤1000000000000000):Pure Tryz.prog 59 [t.d] (.bool (nZ t)):=by
 refine Tz.pK ⟨fun t=>t==6,fun _=>[]⟩ Tryz.func59 rfl (fun Q hQ=>?_)
 have Y:=trivial
 refine eJ (fun h1=>?_) fun h1=>?_
 ·refine wv (h:=?_)
  have hb:nZ t=false:=by simp [nZ];omega
  exact hQ _ _ (by simp [go_sem,hb])
 ·refine wv (h:=bG (fun i e H=>(e 1=.adr t.c∧e 3=dI (gP (t.nodes.take i))∧e 4=dI i)∧(i≤t.nodes.length)∧(gP (t.nodes.take i)≤30)∧((t.nodes.take i).any oB=false)) (fun i=>t.nodes.length - i) 0 ⟨wg,wi,(by (simp [gP])),(by rfl)⟩ fun I0 hI0 i e H hi0=>?_)
  obtain ⟨E0,hi,hs,ha⟩:=hi0
  have Y:=wa Y E0
  refine eJ (fun h5=>?_) fun h5=>?_
  ·have hst:=Ki t.nodes h5
   have hle:=OT t.nodes (i+1)
   have hn:=ht _ (aB h5)
   have Y:=wa Y (wa h5 hst)
   refine eJ (fun h8=>?_) fun h8=>?_
   ·refine wv (h:=?_)
    have hb:nZ t=false:=by
     rcases h8 with h8|h8
     ·simp [nZ];omega
     ·have:t.nodes.any oB=true:=List.any_eq_true.2 ⟨_,aB h5,by simp [oB,iN];omega⟩
      simp [nZ,this]
    exact hQ _ _ (by simp [go_sem,hb])
   ·have hN:iN t.nodes[i].name=false:=by simp [iN];omega
    refine wv (h:=bG (fun k e H=>(e 1=.adr t.c∧e 3=dI (gP (t.nodes.take (i+1)))∧e 4=dI i∧e 5=dI k)∧(k≤t.nodes[i].attrs.length)∧((t.nodes[i].attrs.take k).any sG=false)) (fun k=>t.nodes[i].attrs.length - k) 0 ⟨wg,wi,(by rfl)⟩ fun I2 hI2 k e H hi2=>?_)
    obtain ⟨E2,hk,hb⟩:=hi2
    have Y:=wa Y E2
    refine eJ (fun h11=>?_) fun h11=>?_
    ·have Y:=wa Y h11
     refine eJ (fun h14=>?_) fun h14=>?_
     ·refine wv (h:=?_)
      have hbad:sG t.nodes[i].attrs[k]=true:=by simp [sG,iN];omega
      have hb2:t.nodes.any oB=true:=List.any_eq_true.2 ⟨_,aB h5,by unfold oB;rw [bT];right;exact List.any_eq_true.2 ⟨_,aB h11,hbad⟩⟩
      have hb3:nZ t=false:=by simp [nZ,hb2]
      exact hQ _ _ (by simp [go_sem,hb3])
     ·have hM:iN t.nodes[i].attrs[k].name=false:=by simp [iN];omega
      refine wv (h:=bG (fun m e H=>∃ j:Nat,(e 1=.adr t.c∧e 3=dI (gP (t.nodes.take (i+1)))∧e 4=dI i∧e 5=dI k∧e 6=.ptr j 1 0 0∧e 7=dI m)∧(H.get j=some ⟨186,4,[t.nodes[i].attrs[k].c],false⟩)∧(j<H.next)∧(m≤t.nodes[i].attrs[k].names.length)∧((t.nodes[i].attrs[k].names.take m).any iN=false)) (fun m=>t.nodes[i].attrs[k].names.length - m) 0 ⟨H.next,wg,wn,wn,wi,(by rfl)⟩ fun I4 hI4 m e H hi4=>?_)
      obtain ⟨j,E4,gj_4,nj_4,hm,hc⟩:=hi4
      have Y:=wa Y (wa E4 (wa gj_4 (cG nj_4)))
      refine eJ (fun h17=>?_) fun h17=>?_
      ·have Y:=wa Y h17
       refine eJ (fun h19=>?_) fun h19=>?_
       ·refine wv (h:=?_)
        have hbad:sG t.nodes[i].attrs[k]=true:=by unfold sG;rw [bT];right;exact List.any_eq_true.2 ⟨_,aB h17,by simp [iN];omega⟩
        have hb2:t.nodes.any oB=true:=List.any_eq_true.2 ⟨_,aB h5,by unfold oB;rw [bT];right;exact List.any_eq_true.2 ⟨_,aB h11,hbad⟩⟩
        have hb3:nZ t=false:=by simp [nZ,hb2]
        exact hQ _ _ (by simp [go_sem,hb3])
       ·exact wo (h:=wx hI4 (m+1) ⟨j,wg,wn,wn,wj,(by (rw [cC _ _ _ h17,hc];simp [iN];omega))⟩)
      ·have hZ:=iO hc h17
       exact wo (h:=wx hI2 (k+1) ⟨wg,wj,(by (rw [cC _ _ _ h11,hb];simp [sG,hM,hZ];omega))⟩)
    ·have hA:=iO hb h11
     exact wo (h:=wx hI0 (i+1) ⟨wg,wj,(by omega),(by (rw [cC _ _ _ h5,ha];simp [oB,hN,hA]))⟩)
  ·have hNn:=iO ha h5
   rw [aI (by omega)] at hs
   refine wv (h:=bG (fun q e H=>(e 1=.adr t.c∧e 8=dI q)∧(q≤t.edges.length)∧((t.edges.take q).any yP=false)) (fun q=>t.edges.length - q) 0 ⟨wg,wi,(by rfl)⟩ fun I6 hI6 q e H hi6=>?_)
   obtain ⟨E6,hj,hd⟩:=hi6
   have Y:=wa Y E6
   refine eJ (fun h22=>?_) fun h22=>?_
   ·have Y:=wa Y h22
    refine eJ (fun h24=>?_) fun h24=>?_
    ·refine wv (h:=?_)
     have hb2:t.edges.any yP=true:=List.any_eq_true.2 ⟨_,aB h22,by simp [yP,iN];omega⟩
     have hb3:nZ t=false:=by simp [nZ,hb2]
     exact hQ _ _ (by simp [go_sem,hb3])
    ·exact wo (h:=wx hI6 (q+1) ⟨wg,wj,(by (rw [cC _ _ _ h22,hd];simp [yP,iN];omega))⟩)
   ·have hEe:=iO hd h22
    refine wv (h:=?_)
    have hb3:nZ t=true:=by simp only [nZ,hNn,hEe];simp;omega
    exact hQ _ _ (by simp [go_sem,hb3])
def iR (im keep:List Int):List Int:=((List.range im.length).filter fun (i:Nat)=>!mem keep i).map fun i=>im[i]?.getD 0
def Ds (g:Graph)(me gone:List Int)(k:Nat):Bool:=!mem me k&&(mem gone (g.edges[k]?.getD bS).from_||mem gone (g.edges[k]?.getD bS).to_)
def F3 (g:Graph)(me gone:List Int):List Int:=((List.range g.edges.length).filter (Ds g me gone)).map fun (b:Nat)=>(b:Int)
def Am (im keep:List Int)(i k:Nat):Bool:=decide (im[i]?.getD 0=im[k]?.getD 0)&&(!mem keep i||!mem keep k)
def m5 (im keep:List Int)(i j:Nat):List (Nat × Nat):=((List.range j).filter fun b=>Am im keep i (i+1+b)).map fun b=>(i,i+1+b)
def J9 (im keep:List Int)(n:Nat):List (Nat × Nat):=(List.range n).flatMap fun i=>m5 im keep i (im.length - (i+1))
def v6 (im keep:List Int):List (Nat × Nat):=J9 im keep im.length
def cPr (p:Nat × Nat):List D:=[dI p.1,dI p.2]
@[go_sem] theorem U9 (p:Nat × Nat):D.clL (cPr p)=true:=rfl
@[go_sem] theorem YZ (l:List (Nat × Nat)):D.clLL (l.map cPr)=true:=dA _ U9 l
theorem Mr (im keep:List Int)(i j:Nat):m5 im keep i (j+1)=m5 im keep i j++(if Am im keep i (i+1+j)=true then [(i,i+1+j)] else []):=by
 unfold m5
 rw [bL,eY,List.map_append]
 congr 1
 by_cases h:Am im keep i (i+1+j)=true<;>simp [h]
theorem IR (im keep:List Int)(n:Nat):J9 im keep (n+1)=J9 im keep n++m5 im keep n (im.length - (n+1)):=by
 unfold J9;rw [bL,List.flatMap_append];simp
theorem FY (im keep:List Int)(i j:Nat):(m5 im keep i j).length≤j:=by
 unfold m5;rw [bE];exact cN (kJ _ _) (by simp)
theorem Bm (im keep:List Int):∀ n,(J9 im keep n).length≤n * im.length
 | 0=>by simp [J9]
 | n+1=>by
  have h1:=Bm im keep n
  have h2:=FY im keep n (im.length - (n+1))
  rw [IR,aG,Nat.add_mul]
  omega
theorem FN (im keep:List Int){i:Nat}(h:i<im.length):((List.range (i+1)).filter fun (i:Nat)=>!mem keep i).map (fun i=>im[i]?.getD 0)=((List.range i).filter fun (i:Nat)=>!mem keep i).map (fun i=>im[i]?.getD 0)++(if (!mem keep i)=true then [im[i]] else []):=by
 rw [bL,eY,List.map_append]
 congr 1
 by_cases hm:(!mem keep i)=true
 ·rw [if_pos hm];simp at hm;simp [hm,h]
 ·rw [if_neg hm];simp at hm;simp [hm]
theorem yG {im keep:List Int}{x:Int}:x∈iR im keep↔∃ i:Nat,i<im.length∧mem keep i=false∧im[i]?=some x:=by
 unfold iR
 simp only [aU,cO,aZ,cV]
 constructor
 ·rintro ⟨i,⟨h1,h2⟩,h3⟩
  rw [aA h1] at h3
  exact ⟨i,h1,h2,by rw [aA h1];exact congrArg some h3⟩
 ·rintro ⟨i,h1,h2,h3⟩
  exact ⟨i,⟨h1,h2⟩,by rw [h3];rfl⟩
def compG (l g:Graph)(keep m:Part):Int:=if eN l g m≠0 then eN l g m else subF l keep
def xM (l g:Graph)(keep m:Part):Int :=
 if compG l g keep m≠0 then compG l g keep m
 else if 0<(v6 m.nodes keep.nodes).length+(v6 m.edges keep.edges).length then 15
 else if 0<(F3 g m.edges (iR m.nodes keep.nodes)).length then 14 else 0
def Bw (l g:Graph)(keep m:Part):Part:=if xM l g keep m=0 then ⟨cZ (iR m.nodes keep.nodes) g.nodes.length,cZ (iR m.edges keep.edges) g.edges.length⟩ else ⟨[],[]⟩
theorem nV (l:List Int)(v:Int):Pure Tryz.prog 348 [dLI l,dI v] (.bool (mem l v)):=by
 refine Tz.pK ⟨fun _=>false,fun _=>[]⟩ Tryz.func348 rfl (fun Q hQ=>?_)
 have Y:=trivial
 refine wv (h:=bG (fun i e H=>(e 0=dLI l∧e 1=dI v∧e 5=dI i)∧(i≤l.length)∧(∀ j,j<i→l[j]?≠some v)) (fun i=>l.length - i) 0 ⟨wg,wi,(by (intro j hj;omega))⟩ fun I0 hI0 i e H hi0=>?_)
 obtain ⟨E0,hi,hne⟩:=hi0
 have Y:=wa Y E0
 refine wv (h:=?_)
 repeat first|intro _|refine ⟨d8,?_⟩
 refine wq (fun h2=>?_) fun h2=>?_
 ·have Y:=wa Y h2
  refine wv (h:=?_)
  repeat first|intro _|refine ⟨d8,?_⟩
  refine wq (fun h4=>?_) fun h4=>?_
  ·refine wv (h:=?_)
   have hm:mem l v=true:=(dM l v).2 (h4 ▸ aB h2)
   exact hQ _ _ (by simp [go_sem,hm])
  ·exact wo (h:=wx hI0 (i+1) ⟨wg,wj,(by (exact jA hne (by rw [aA h2];simpa using h4)))⟩)
 ·refine wv (h:=?_)
  have hm:mem l v=false:=by rw [bO];intro h;obtain ⟨j,hj,he⟩:=aT ((dM l v).1 h);exact hne j (by omega) (by rw [aA hj,he])
  exact hQ _ _ (by simp [go_sem,hm])
theorem EP (l:List Int)(n:Nat)(hn:n≤1000000):Pure Tryz.prog 268 [dI n,dLI l] (dLI (cZ l n)):=by
 refine Tz.pK ⟨fun t=>t==5,fun _=>[]⟩ Tryz.func268 rfl (fun Q hQ=>?_)
 have Y:=trivial
 refine wv (h:=bG (fun i e H=>∃ xs:List Int,(e 1=dLI l∧e 0=dI n∧e 5=.own 0 xs.length∧e 6=dI i)∧(H.get 0=some ⟨3,1,xs.map cI,false⟩)∧(0<H.next)∧(i≤n)∧(xs.length≤i)∧(xs=((List.range i).filter fun (b:Nat)=>!mem l b).map (fun (b:Nat)=>(b:Int)))) (fun i=>n - i) 0 ⟨([]),wg,wn,wn,wi,(by simp),(by rfl)⟩ fun I0 hI0 i e H hi0=>?_)
 obtain ⟨xs,E0,g0_0,n0_0,hi,hl,hx⟩:=hi0
 have Y:=wa Y (wa E0 (wa g0_0 (cG n0_0)))
 refine d7 (fun h3=>?_) fun h3=>?_
 ·have Y:=wa Y h3
  refine wo (h:=aC (nV l i) wl ?_)
  refine eJ (fun h5=>?_) fun h5=>?_
  ·have Y:=wa Y h5
   exact wo (h:=wx hI0 (i+1) ⟨(xs++(if (!mem l i)=true then [(i:Int)] else [])),wg,wn,wn,wj,(by (rw [aG];split<;>simp<;>omega)),(by (rw [bN,← hx]))⟩)
  ·have Y:=wa Y h5
   exact wo (h:=wx hI0 (i+1) ⟨(xs++(if (!mem l i)=true then [(i:Int)] else [])),wg,wn,wn,wj,(by (rw [aG];split<;>simp<;>omega)),(by (rw [bN,← hx]))⟩)
 ·exact wv (h:=hQ _ _ (by simp [go_sem,Y,cZ];rw [hx,show i=n by omega];simp))
theorem zY (im keep:List Int)(hn:im.length≤1000000):Pure Tryz.prog 269 [dLI im,dLI keep] (dLI (iR im keep)):=by
 refine Tz.pK ⟨fun t=>t==5,fun _=>[]⟩ Tryz.func269 rfl (fun Q hQ=>?_)
 have Y:=trivial
 refine wv (h:=bG (fun i e H=>∃ xs:List Int,(e 0=dLI im∧e 1=dLI keep∧e 5=.own 0 xs.length∧e 6=dI i)∧(H.get 0=some ⟨3,1,xs.map cI,false⟩)∧(0<H.next)∧(i≤im.length)∧(xs.length≤i)∧(xs=((List.range i).filter fun (b:Nat)=>!mem keep b).map (fun i=>im[i]?.getD 0))) (fun i=>im.length - i) 0 ⟨([]),wg,wn,wn,wi,(by simp),(by rfl)⟩ fun I0 hI0 i e H hi0=>?_)
 obtain ⟨xs,E0,g0_0,n0_0,hi,hl,hx⟩:=hi0
 have Y:=wa Y (wa E0 (wa g0_0 (cG n0_0)))
 refine eJ (fun h3=>?_) fun h3=>?_
 ·have Y:=wa Y (wa h3 (aA h3))
  refine wo (h:=aC (nV keep i) wl ?_)
  refine eJ (fun h5=>?_) fun h5=>?_
  ·have Y:=wa Y h5
   exact wo (h:=wx hI0 (i+1) ⟨(xs++(if (!mem keep i)=true then [im[i]] else [])),wg,wn,wn,wj,(by (rw [aG];split<;>simp<;>omega)),(by (rw [FN _ _ h3,← hx]))⟩)
  ·have Y:=wa Y h5
   exact wo (h:=wx hI0 (i+1) ⟨(xs++(if (!mem keep i)=true then [im[i]] else [])),wg,wn,wn,wj,(by (rw [aG];split<;>simp<;>omega)),(by (rw [FN _ _ h3,← hx]))⟩)
 ·refine wv (h:=?_)
  have hX:iR im keep=xs:=by rw [hx,show i=im.length by omega];rfl
  exact hQ _ _ (by simp [go_sem,Y,hX])
theorem Sp {g:Graph}{me gone:List Int}{k:Nat}(h:k<g.edges.length):Ds g me gone k=(!mem me k&&(mem gone g.edges[k].from_||mem gone g.edges[k].to_)):=by
 unfold Ds;rw [aA h];rfl
theorem EQ (l g:Graph)(keep m:Part)(hn:m.nodes.length≤1000000)(hg:g.edges.length≤1000000):Pure Tryz.prog 267 [l.d,g.d,keep.d,m.d] (dLI (F3 g m.edges (iR m.nodes keep.nodes))):=by
 obtain ⟨go,hgo⟩:∃ go,iR m.nodes keep.nodes=go:=⟨_,rfl⟩
 refine Tz.pK ⟨fun t=>t==9,fun _=>[]⟩ Tryz.func267 rfl (fun Q hQ=>?_)
 have Y:=hgo
 refine wv (h:=aC (zY m.nodes keep.nodes hn) wl ?_)
 refine wv (h:=bG (fun k e H=>∃ xs:List Int,(e 5=.adr g.c∧e 7=.adr m.c∧e 10=dLI go∧e 9=.own 0 xs.length∧e 11=dI k)∧(H.get 0=some ⟨3,1,xs.map cI,false⟩)∧(0<H.next)∧(k≤g.edges.length)∧(xs.length≤k)∧(xs=((List.range k).filter (Ds g m.edges go)).map (fun (b:Nat)=>(b:Int)))) (fun k=>g.edges.length - k) 0 ⟨([]),wg,wn,wn,wi,(by simp),(by rfl)⟩ fun I0 hI0 k e H hi0=>?_)
 obtain ⟨xs,E0,g0_0,n0_0,hi,hl,hx⟩:=hi0
 have Y:=wa Y (wa E0 (wa g0_0 (cG n0_0)))
 refine eJ (fun h4=>?_) fun h4=>?_
 ·have hdb:=Sp (me:=m.edges) (gone:=go) h4
  have c1:=nV go g.edges[k].from_
  have c2:=nV go g.edges[k].to_
  have Y:=wa Y (wa h4 (wa (aA h4) hdb))
  refine wo (h:=aC (nV m.edges k) wl ?_)
  refine wo (h:=aN (fun hg=>c1) (fun hg=>wl) ?_)
  refine wo (h:=aN (fun hg=>c2) (fun hg=>wl) ?_)
  refine eJ (fun h6=>?_) fun h6=>?_
  ·have Y:=wa Y h6
   exact wo (h:=wx hI0 (k+1) ⟨(xs++(if Ds g m.edges go k=true then [(k:Int)] else [])),wg,wn,wn,wj,(by (rw [aG];split<;>simp<;>omega)),(by (rw [bN,← hx]))⟩)
  ·have Y:=wa Y h6
   exact wo (h:=wx hI0 (k+1) ⟨(xs++(if Ds g m.edges go k=true then [(k:Int)] else [])),wg,wn,wn,wj,(by (rw [aG];split<;>simp<;>omega)),(by (rw [bN,← hx]))⟩)
 ·refine wv (h:=?_)
  have hX:F3 g m.edges go=xs:=by rw [hx,show k=g.edges.length by omega];rfl
  exact hQ _ _ (by simp [go_sem,Y,hX])
theorem Lv (l g:Graph)(keep m:Part)(hk:keep.nodes.length≤1000000):Pure Tryz.prog 265 [l.d,g.d,keep.d,m.d] (dI (compG l g keep m)):=by
 refine Tz.pK ⟨fun _=>false,fun _=>[]⟩ Tryz.func265 rfl (fun Q hQ=>?_)
 have Y:=trivial
 refine wv (h:=aC (rS l g m) wl ?_)
 refine d7 (fun h2=>?_) fun h2=>?_
 ·have Y:=wa Y (wa h2 @compG.eq_1)
  exact wv (h:=hQ _ _ wy)
 ·refine wv (h:=aC (wV l keep) wl ?_)
  have Y:=wa Y (wa h2 @compG.eq_1)
  exact wv (h:=hQ _ _ wy)
theorem U4 {im keep:List Int}{i k:Nat}(hi:i<im.length)(hk:k<im.length):Am im keep i k=(decide (im[i]=im[k])&&(!mem keep i||!mem keep k)):=by
 unfold Am;rw [aA hi,aA hk];rfl
theorem Ct (im keep:List Int){i k:Nat}(h:i+1≤k):m5 im keep i (k+1 - (i+1))=m5 im keep i (k - (i+1))++(if Am im keep i k=true then [(i,k)] else []):=by
 rw [show k+1 - (i+1)=(k - (i+1))+1 by omega,Mr,show i+1+(k - (i+1))=k by omega]
theorem tK (im keep:List Int)(hn:im.length≤1000):Pure Tryz.prog 266 [dLI im,dLI keep] (.list ((v6 im keep).map cPr)):=by
 refine Tz.pK ⟨fun t=>t==5,fun _=>[]⟩ Tryz.func266 rfl (fun Q hQ=>?_)
 have Y:=trivial
 refine wv (h:=bG (fun i e H=>∃ xs:List (Nat × Nat),(e 0=dLI im∧e 1=dLI keep∧e 5=.own 0 xs.length∧e 6=dI i)∧(H.get 0=some ⟨395,2,xs.map cPr,false⟩)∧(0<H.next)∧(i≤im.length)∧(xs=J9 im keep i)) (fun i=>im.length - i) 0 ⟨([]),wg,wn,wn,wi,(by rfl)⟩ fun I0 hI0 i e H hi0=>?_)
 obtain ⟨xs,E0,g0_0,n0_0,hi,hx⟩:=hi0
 have Y:=wa Y (wa E0 (wa g0_0 (cG n0_0)))
 refine eJ (fun h3=>?_) fun h3=>?_
 ·have Y:=wa Y (wa h3 (aA h3))
  refine wo (h:=bG (fun k e H=>∃ ys:List (Nat × Nat),(e 0=dLI im∧e 1=dLI keep∧e 5=.own 0 ys.length∧e 6=dI i∧e 7=dI k)∧(H.get 0=some ⟨395,2,ys.map cPr,false⟩)∧(0<H.next)∧(i+1≤k)∧(k≤im.length)∧(ys=xs++m5 im keep i (k - (i+1)))∧(ys.length≤1000000)) (fun k=>im.length - k) (i+1) ⟨xs,wg,wn,wn,wi,wi,(by (simp [m5])),(by (have:=Bm im keep i;have:i * im.length≤1000 * 1000:=jO (by omega) hn;rw [hx];omega))⟩ fun I2 hI2 k e H hi2=>?_)
  obtain ⟨ys,E2,g0_2,n0_2,hk1,hk2,hy,hyl⟩:=hi2
  have Y:=wa Y (wa E2 (wa g0_2 (cG n0_2)))
  refine eJ (fun h6=>?_) fun h6=>?_
  ·have hd:=U4 (keep:=keep) h3 h6
   have hyl2:(ys++(if Am im keep i k=true then [(i,k)] else [])).length≤1000000:=by
    have e1:ys++(if Am im keep i k=true then [(i,k)] else [])=J9 im keep i++m5 im keep i (k+1 - (i+1)):=by rw [Ct _ _ (by omega),← List.append_assoc,hy,hx]
    rw [e1,aG]
    have h1:=Bm im keep i
    have h2:=FY im keep i (k+1 - (i+1))
    have h3:i * im.length+im.length≤1000 * 1000:=by
     have:=jO (show i+1≤1000 by omega) hn
     rw [Nat.add_mul] at this;omega
    omega
   have Y:=wa Y (wa h3 (wa (aA h3) (wa h6 (aA h6))))
   refine wo (h:=c9 (fun hg=>nV keep i) (fun hg=>wl) ?_)
   refine wo (h:=c9 (fun hg=>nV keep k) (fun hg=>wl) ?_)
   refine eJ (fun h8=>?_) fun h8=>?_
   ·have hdt:Am im keep i k=true:=by rw [hd];simpa using h8
    have Y:=wa Y (wa hdt @cPr.eq_1)
    exact wo (h:=wx hI2 (k+1) ⟨(ys++(if Am im keep i k=true then [(i,k)] else [])),wg,wn,wn,wj,wj,(by (rw [Ct _ _ (by omega),← List.append_assoc,← hy])),(by (exact hyl2))⟩)
   ·have hdf:Am im keep i k=false:=by rw [hd,bO];intro hb;simp at hb;simp_all
    have Y:=wa Y hdf
    exact wo (h:=wx hI2 (k+1) ⟨(ys++(if Am im keep i k=true then [(i,k)] else [])),wg,wn,wn,wj,wj,(by (rw [Ct _ _ (by omega),← List.append_assoc,← hy])),(by (exact hyl2))⟩)
  ·have hJ:k=im.length:=by omega
   subst hJ
   subst hy
   exact wo (h:=wx hI0 (i+1) ⟨(xs++m5 im keep i (im.length - (i+1))),wg,wn,wn,wj,(by (rw [IR,← hx]))⟩)
 ·have hX:v6 im keep=xs:=by rw [hx,show i=im.length by omega];rfl
  exact wv (h:=hQ _ _ (by simp [go_sem,Y,hX]))
theorem Ms {im keep:List Int}(h:im.length≤1000):(v6 im keep).length≤1000000:=by
 have h1:=Bm im keep im.length
 have h2:im.length * im.length≤1000 * 1000:=jO h h
 unfold v6;omega
theorem RF (l g:Graph)(keep m:Part)(hk:keep.nodes.length≤1000000)(hm1:m.nodes.length≤1000)(hm2:m.edges.length≤1000)(hg1:g.nodes.length≤1000000)(hg2:g.edges.length≤1000000):Pure Tryz.prog 169 [l.d,g.d,keep.d,m.d] (.tup [(Bw l g keep m).d,dI (xM l g keep m)]):=by
 have hd1:=Ms (keep:=keep.nodes) hm1
 have hd2:=Ms (keep:=keep.edges) hm2
 refine Tz.pK ⟨fun t=>t==8,fun _=>[]⟩ Tryz.func169 rfl (fun Q hQ=>?_)
 have Y:=trivial
 refine wv (h:=aC (Lv l g keep m hk) wl ?_)
 refine d7 (fun h2=>?_) fun h2=>?_
 ·have hC:xM l g keep m=compG l g keep m:=if_pos h2
  have hZ:Bw l g keep m=⟨[],[]⟩:=if_neg (by rw [hC];exact h2)
  exact wv (h:=hQ _ _ (by simp [go_sem,hC,hZ]))
 ·have hC:xM l g keep m=if 0<(v6 m.nodes keep.nodes).length+(v6 m.edges keep.edges).length then 15 else if 0<(F3 g m.edges (iR m.nodes keep.nodes)).length then 14 else 0:=if_neg (by rw [h2];simp)
  refine wo (h:=aM (tK m.nodes keep.nodes hm1) wl ?_)
  refine wo (h:=aM (tK m.edges keep.edges hm2) wl ?_)
  refine eJ (fun h4=>?_) fun h4=>?_
  ·rw [if_pos (by omega)] at hC
   have hZ:Bw l g keep m=⟨[],[]⟩:=if_neg (by rw [hC];simp)
   exact wv (h:=hQ _ _ (by simp [go_sem,hC,hZ]))
  ·rw [if_neg (by first|omega|simp [h4])] at hC
   refine wo (h:=aC (EQ l g keep m (by omega) hg2) wl ?_)
   refine eJ (fun h6=>?_) fun h6=>?_
   ·rw [if_pos (by omega)] at hC
    have hZ:Bw l g keep m=⟨[],[]⟩:=if_neg (by rw [hC];simp)
    exact wv (h:=hQ _ _ (by simp [go_sem,hC,hZ]))
   ·rw [if_neg (by first|omega|simp [h6])] at hC
    have hZ:Bw l g keep m=⟨cZ (iR m.nodes keep.nodes) g.nodes.length,cZ (iR m.edges keep.edges) g.edges.length⟩:=if_pos hC
    refine wo (h:=aM (zY m.nodes keep.nodes (by omega)) wl ?_)
    refine wo (h:=aM (EP (iR m.nodes keep.nodes) g.nodes.length hg1) wl ?_)
    refine wo (h:=aM (zY m.edges keep.edges (by omega)) wl ?_)
    refine wo (h:=aM (EP (iR m.edges keep.edges) g.edges.length hg2) wl ?_)
    exact wo (h:=hQ _ _ (by simp [go_sem,hC,hZ]))
theorem Ca {a b:Graph}{m:Part}(h:eN a b m=0):(∀ x∈m.nodes,0≤x∧x<b.nodes.length)∧∀ x∈m.edges,0≤x∧x<b.edges.length:=by
 obtain ⟨_,_,h3,h4⟩:=lX h
 have hM:eN a b m=(if b9 (jK a b m) 0 a.nodes.length≠0 then b9 (jK a b m) 0 a.nodes.length else b9 (jL a b m) 0 a.edges.length):=by
  obtain ⟨g1,g2,_,_⟩:=lX h
  unfold eN;rw [if_neg (by simp [g1]),if_neg (by simp [g2]),if_neg (by omega)]
 rw [hM] at h
 split at h
 ·rename_i h5;exact absurd h h5
 ·rename_i h5
  constructor
  ·intro x hx
   obtain ⟨i,hi,rfl⟩:=aT hx
   have:=fI _ _ (show b9 (jK a b m) 0 a.nodes.length=0 by omega) i (by omega) (by omega)
   unfold jK at this
   rw [aA hi] at this
   simp only [aD] at this
   split at this<;>omega
  ·intro x hx
   obtain ⟨i,hi,rfl⟩:=aT hx
   have:=fI _ _ h i (by omega) (by omega)
   unfold jL at this
   rw [aA hi] at this
   simp only [aD] at this
   split at this<;>omega
structure Ovl where
 graph:Graph
 left:Part
 right:Part
def Ovl.c (o:Ovl):List D:=[dLI o.graph.nodes,.list (o.graph.edges.map Edge.c),dLI o.left.nodes,dLI o.left.edges,dLI o.right.nodes,dLI o.right.edges]
def Ovl.d (o:Ovl):D:=.agg o.c
@[go_sem] theorem Ovl.cl (o:Ovl):D.clL o.c=true:=by simp [Ovl.c,D.clL,D.cl,n3,t8]
@[go_sem] theorem Yd (o:Ovl):o.d.cl=true:=by simp only [Ovl.d,D.cl];exact Ovl.cl o
@[go_sem] theorem XB (l:List Ovl):D.clLL (l.map Ovl.c)=true:=dA _ Ovl.cl l
def nX (n:Nat):List Int:=(List.range n).map fun (k:Nat)=>(k:Int)
theorem B9 (i:Nat):nX (i+1)=nX i++[(i:Int)]:=by simp [nX,bL]
theorem i6 (n:Nat):(nX n).length=n:=by simp [nX]
theorem AQ (n:Nat)(hn:n≤100000):Pure Tryz.prog 77 [dI n] (dLI (nX n)):=by
 refine Tz.pK ⟨fun t=>t==3,fun _=>[]⟩ Tryz.func77 rfl (fun Q hQ=>?_)
 have Y:=trivial
 refine wv (h:=bG (fun i e H=>(e 0=dI n∧e 3=.own 0 i∧e 4=dI i)∧(H.get 0=some ⟨3,1,(nX i).map cI,false⟩)∧(0<H.next)∧(i≤n)∧((nX i).length=i)) (fun i=>n - i) 0 ⟨wg,(by rfl),wn,wi,(by (exact i6 _))⟩ fun I0 hI0 i e H hi0=>?_)
 obtain ⟨E0,g0_0,n0_0,hi,hl⟩:=hi0
 have Y:=wa Y (wa E0 (wa g0_0 (wa (cG n0_0) hl)))
 refine d7 (fun h3=>?_) fun h3=>?_
 ·have Y:=wa Y h3
  exact wo (h:=wx hI0 (i+1) ⟨wg,(by (simp [go_sem,Y,B9])),wn,wj,(by (exact i6 _))⟩)
 ·have hie:i=n:=by omega
  subst hie
  have Y:=wa Y h3
  exact wv (h:=hQ _ _ wy)
theorem Ly (g:Graph)(hn:g.nodes.length≤100000)(he:g.edges.length≤100000):Pure Tryz.prog 29 [g.d] (Part.d ⟨nX g.nodes.length,nX g.edges.length⟩):=by
 refine Tz.pK ⟨fun t=>t==2,fun _=>[]⟩ Tryz.func29 rfl (fun Q hQ=>?_)
 have Y:=trivial
 refine wo (h:=aM (AQ g.nodes.length hn) wl ?_)
 refine wo (h:=aM (AQ g.edges.length he) wl ?_)
 exact wo (h:=hQ _ _ wy)
def M2 (P:Program)(f:FuncId)(args:List D)(R:D→Prop):Prop :=
 TM P f∧∀ (M:Nat→Prop) (w:World) (vals:List Value),(∀ b,M b→b<w.heap.size)→RepL M gB pM w vals args →
  Calls P f vals.toArray w fun e w'=>∃ v r,R r∧r.cl=true∧e=.returned v∧RepV M gB pM w' v r∧RowKit.Below w.heap.size w w'
theorem qJ {P:Program}{f:FuncId}{args:List D}{R:D→Prop}(h:ACalls P f args .emp fun d H'=>R (lW H' d)∧(lW H' d).cl=true):M2 P f args R:=by
 refine ⟨h.1,fun M w vals hM ha=>(h.2 M gB w vals (AJ M w hM) (by rw [A5];exact ha)).mono fun e w' ⟨v,d,H',σ',he,hR,hv,hst,hk,hr,hcl⟩=>⟨v,lW H' d,hr,hcl,he,?_,tE hst⟩⟩
 have h1:=oJ hR hv (AX d) fun i hi=>hi
 exact h1.closed (fun ad u hm hc=>⟨fun h=>hm (.inl h),hc⟩) hcl
theorem vG {P:Program}{f:FuncId}{args:List D}{H:AHeap}{R:D→Prop}{Q:D→AHeap→Prop}(hp:M2 P f args R)(hcl:D.clL args=true)(hQ:∀ r,R r→r.cl=true→Q r H):ACalls P f args H Q:=by
 refine ⟨hp.1,fun M0 σ w vals hR ha=>(hp.2 (c7 M0 H σ) w vals (sS hR) (gK (fun _ h=>h) ha hcl)).mono fun e w' ⟨v,r,hr,hrc,he,hv,hb⟩=>?_⟩
 obtain ⟨h1,h2,h3⟩:=hR.grow hb.os hb.tape hb.output hb.size hb.block
 exact ⟨v,r,H,σ,he,h1,hv.keep r8,h2,h3,hQ r hr hrc⟩
theorem Ed (l o:List Int)(h:ProdOk l o):Pure Tryz.prog 356 [dLI l,.adr [dLI o]] (.bool (decide (-1<gM l o))):=by
 refine Tz.pK ⟨fun _=>false,fun _=>[]⟩ Tryz.func356 rfl (fun Q hQ=>?_)
 have Y:=trivial
 refine wv (h:=aC (Ee l o h) wl ?_)
 exact wv (h:=hQ _ _ wy)
def provesB (xs:List (List Int))(o:List Int):Bool:=!(xs.any fun l=>decide (-1<gM l o))
theorem GH (xs:List (List Int))(o:List Int)(h:∀ l∈xs,ProdOk l o):Pure Tryz.prog 286 [.list (xs.map cL),dLI o] (.bool (provesB xs o)):=by
 refine Tz.pK ⟨fun _=>false,fun _=>[]⟩ Tryz.func286 rfl (fun Q hQ=>?_)
 have Y:=trivial
 refine wo (h:=aC (m6 xs 356 [.adr [dLI o]] (fun l=>decide (-1<gM l o)) (by simp [go_sem]) (by simp [go_sem]) (fun l hl=>Ed l o (h l hl))) wl ?_)
 have Y:=wa Y @provesB.eq_1
 exact wo (h:=hQ _ _ wy)
structure FI (xs:List (List Int)) (tch:List Int) (nn:Nat) (H:AHeap) (o:List Int):Prop where
 b0:H.get 0=some ⟨38,1,[[.list (xs.map cL)]],false⟩
 b1:H.get 1=some ⟨34,1,[[dLI tch]],false⟩
 b2:H.get 2=some ⟨3,1,o.map cI,false⟩
 b3:H.get 3=some ⟨34,1,[[.own 2 nn]],false⟩
 len:o.length=nn
 dig:∀ x∈o,0≤x∧x≤6
structure FX (xs:List (List Int)) (tch:List Int) (nn:Nat):Prop where
 xl:∀ l∈xs,l.length=nn
 xb:∀ l∈xs,∀ x∈l,-100000≤x∧x≤100000
 tb:∀ v∈tch,0≤v∧v<nn
 few:tch.length≤6
 nf:nn≤1000
theorem oQ {l:List Int}(h:∀ x∈l,0≤x∧x≤6)(k:Nat){v:Int}(hv:0≤v∧v≤6):∀ x∈l.set k v,0≤x∧x≤6:=fun x hx=>by
 rcases fG hx with h1|h1
 ·exact h x h1
 ·subst h1;exact hv
theorem Jl {xs:List (List Int)}{tch:List Int}{nn:Nat}(hX:FX xs tch nn)(w:List Int)(hw:w.length=tch.length)(hwd:∀ x∈w,0≤x∧x≤6)(G:AHeap)(o0:List Int)(hG:FI xs tch nn G o0)(hg4:G.get 4=some ⟨3,1,w.map cI,false⟩)(Q:D→AHeap→Prop)
  (hQ:∀ b o H',FI xs tch nn H' o→(∀ j,j≠2→H'.get j=G.get j)→G.next≤H'.next→Q (.bool b) H'):ACalls Tryz.prog 285 [.own 4 tch.length,.ptr 1 1 0 0,.ptr 3 1 0 0,.ptr 0 1 0 0] G Q:=by
 obtain ⟨hb0,hb1,hb2,hb3,hln,hdg⟩:=hG
 obtain ⟨hxl,hxb,htb,hfw,hnf⟩:=hX
 refine (aH (cfg:=⟨fun _=>false,fun _=>[]⟩) Tz.mixed Tryz.func285 rfl rfl (aE rfl) (by kernel_rfl) ?_)
 have Y:=wa hb0 (wa hb1 (wa hb2 (wa hb3 (wa hg4 hw))))
 refine wo (h:=bG (fun i e H=>∃ o:List Int,(e 0=.own 4 tch.length∧e 1=.ptr 1 1 0 0∧e 2=.ptr 3 1 0 0∧e 3=.ptr 0 1 0 0∧e 8=dLI tch∧e 9=dI tch.length∧e 10=dI i)∧(i≤tch.length)∧(H.get 2=some ⟨3,1,o.map cI,false⟩)∧(∀ j,j≠2→H.get j=G.get j)∧(G.next≤H.next)∧(o.length=nn)∧(∀ x∈o,0≤x∧x≤6)) (fun i=>tch.length - i) 0 ⟨o0,wg,wi,(by exact hb2),(by exact fun _ _=>rfl),(by exact bQ _),(by exact hln),(by exact hdg)⟩ fun I0 hI0 i e H hi0=>?_)
 obtain ⟨o,E0,hi,c2,hfr,hnx,hol,hod⟩:=hi0
 have Y:=wa Y (wa E0 (wa c2 (wa hol (wa (hfr 0 (by decide)) (wa (hfr 1 (by decide)) (wa (hfr 3 (by decide)) ((hfr 4 (by decide)))))))))
 refine d7 (fun h2=>?_) fun h2=>?_
 ·have hk:i<w.length:=by omega
  have hdig:=hwd _ (aB hk)
  have htv:=htb _ (aB h2)
  have hv:tch[i].toNat<o.length:=by omega
  have Y:=wa Y (wa h2 (wa (aA hk) (aA hv)))
  exact wo (h:=wx hI0 (i+1) ⟨(o.set tch[i].toNat w[i]),wg,wj,(by (simp [go_sem,c2,cK,aA hk,aA hv])),(by (intro j hj';simp [go_sem,hj',hfr j hj'])),(by (simp [go_sem];omega)),(by (simp [hol])),(by (exact oQ hod _ hdig))⟩)
 ·refine wv (h:=eR ((GH xs o (fun l hl=>⟨by rw [hxl l hl];omega,by rw [hxl l hl];omega,hxb l hl,fun x hx=>by have:=hod x hx;omega⟩))) wr wl rfl ?_)
  refine wv (h:=?_)
  exact hQ _ o _ ⟨by rw [hfr 0 (by decide)];exact hb0,by rw [hfr 1 (by decide)];exact hb1,c2,by rw [hfr 3 (by decide)];exact hb3,hol,hod⟩ hfr hnx
def testV:D:=.fn 285 [.ptr 1 1 0 0,.ptr 3 1 0 0,.ptr 0 1 0 0]
def fillV (n:Nat):D:=.fn 355 [.adr [dI n],.adr [testV],.ptr 5 1 0 0,.ptr 6 1 0 0]
structure LI (xs:List (List Int)) (tch:List Int) (nn:Nat) (H:AHeap) (w o:List Int):Prop where
 fi:FI xs tch nn H o
 b4:H.get 4=some ⟨3,1,w.map cI,false⟩
 b5:H.get 5=some ⟨34,1,[[.own 4 tch.length]],false⟩
 b6:H.get 6=some ⟨242,1,[[fillV tch.length]],false⟩
 wl:w.length=tch.length
 wd:∀ x∈w,0≤x∧x≤6
theorem FI.of {xs:List (List Int)}{tch:List Int}{nn:Nat}{H H':AHeap}{o:List Int}(h:FI xs tch nn H o)(hf:∀ j,j<4→H'.get j=H.get j):FI xs tch nn H' o :=
 ⟨(hf 0 (by decide)).trans h.b0,(hf 1 (by decide)).trans h.b1,(hf 2 (by decide)).trans h.b2,(hf 3 (by decide)).trans h.b3,h.len,h.dig⟩
theorem LI.put {xs:List (List Int)}{tch:List Int}{nn:Nat}{H H':AHeap}{w o:List Int}(h:LI xs tch nn H w o)(k:Nat){v:Int}(hv:0≤v∧v≤6)(h4:H'.get 4=some ⟨3,1,(w.set k v).map cI,false⟩)(hf:∀ j,j≠4→H'.get j=H.get j):LI xs tch nn H' (w.set k v) o :=
 ⟨h.fi.of fun j hj=>hf j (by omega),h4,(hf 5 (by decide)).trans h.b5,(hf 6 (by decide)).trans h.b6,by rw [dX];exact h.wl,oQ h.wd k hv⟩
theorem LI.test {xs:List (List Int)}{tch:List Int}{nn:Nat}{H H':AHeap}{w o o':List Int}(h:LI xs tch nn H w o)(h1:FI xs tch nn H' o')(hf:∀ j,j≠2→H'.get j=H.get j):LI xs tch nn H' w o' :=
 ⟨h1,(hf 4 (by decide)).trans h.b4,(hf 5 (by decide)).trans h.b5,(hf 6 (by decide)).trans h.b6,h.wl,h.wd⟩
theorem GI {xs:List (List Int)}{tch:List Int}{nn:Nat}(hX:FX xs tch nn):∀ (k:Nat) (a left:Int) (w o:List Int) (G:AHeap) (Q:D→AHeap→Prop),0≤a→a+k=tch.length→0≤left→left≤36→LI xs tch nn G w o →
  (∀ b w' o' H',LI xs tch nn H' w' o'→G.next≤H'.next→Q (.bool b) H')→ACalls Tryz.prog 355 [dI a,dI left,.adr [dI tch.length],.adr [testV],.ptr 5 1 0 0,.ptr 6 1 0 0] G Q:=by
 have hfew:=hX.few
 intro k
 induction k using Nat.strongRecOn with
 | _ k ih =>
 intro a left w o G Q ha hk hl0 hl1 hI hQ
 have hb4:=hI.b4
 have hb5:=hI.b5
 have hb6:=hI.b6
 have hw:=hI.wl
 refine (aH (cfg:=⟨fun _=>false,fun _=>[]⟩) Tz.mixed Tryz.func355 rfl rfl (aE rfl) (by kernel_rfl) ?_)
 have Y:=wa hb4 (wa hb5 (wa hb6 (wa hw (wa @testV.eq_1 @fillV.eq_1))))
 refine d7 (fun h1=>?_) fun h1=>?_
 ·refine wo (h:=?_)
  refine J5 (fun ht=>Jl hX w hw hI.wd _ o hI.fi hb4 _ (fun b o2 H2 hF2 hf2 hn2=>?_)) (fun hf=>?_);rotate_left;refine ⟨.bool false,?_⟩;(simp [go_sem,seval,hf]);exact hQ false w o G hI (bQ _)
  refine wo (h:=?_)
  exact hQ _ w o2 H2 (hI.test hF2 hf2) hn2
 ·refine wo (h:=bG (fun v e H=>∃ w1:List Int,∃ o1:List Int,(e 0=dI a∧e 1=dI left∧e 2=.adr [dI tch.length]∧e 3=.adr [testV]∧e 4=.ptr 5 1 0 0∧e 5=.ptr 6 1 0 0∧e 9=dI v)∧(v≤40)∧(LI xs tch nn H w1 o1)∧(G.next≤H.next)) (fun v=>41 - v) ((left - 6 * ((tch.length:Int) - a - 1)).toNat) ⟨w,o,wg,(by omega),(by exact hI),(by exact bQ _)⟩ fun I0 hI0 v e H hi0=>?_)
  obtain ⟨w1,o1,E0,hv7,hI1,hnx⟩:=hi0
  have Y:=wa Y (wa E0 (wa hI1.b4 (wa hI1.b5 (wa hI1.b6 hI1.wl))))
  refine eJ (fun h4=>?_) fun h4=>?_
  ·have hv6:(v:Int)≤6∧(v:Int)≤left:=by omega
   have hwl:=hI1.wl
   have hk4:a.toNat<w1.length:=by omega
   have Y:=wa Y (wa h4 (aA hk4))
   refine wo (h:=?_)
   unfold fB;refine ih (k - 1) (by omega) (a+1) (left - v) (w1.set a.toNat v) o1 _ _ (by omega) (by omega) (by omega) (by omega) (hI1.put a.toNat (by omega) (by simp [go_sem,Y]) (fun j hj=>by simp [go_sem,hj])) (fun b w2 o2 H2 hI2 hn2=>?_)
   refine eJ (fun h7=>?_) fun h7=>?_
   ·refine wv (h:=?_)
    exact hQ _ w2 o2 H2 hI2 (cN hnx (cN (by simp [go_sem]) hn2))
   ·exact wo (h:=wx hI0 (v+1) ⟨w2,o2,wg,(by omega),(by exact hI2),(by (exact cN hnx (cN (by simp [go_sem]) hn2)))⟩)
  ·refine wv (h:=?_)
   exact hQ _ w1 o1 H hI1 hnx
theorem Jj {xs:List (List Int)}{tch:List Int}{nn:Nat}(hX:FX xs tch nn)(G:AHeap)(o:List Int)(hG:FI xs tch nn G o)(hn:G.next=4)(Q:D→AHeap→Prop)
  (hQ:∀ d b w' o' H',LI xs tch nn H' w' o'→Q (.tup [d,.bool b]) H'):ACalls Tryz.prog 284 [dI tch.length,testV] G Q:=by
 have hfew:=hX.few
 refine (aH (cfg:=⟨fun t=>t==6||t==7,fun _=>[]⟩) Tz.mixed Tryz.func284 rfl rfl (aE rfl) (by kernel_rfl) ?_)
 have Y:=wa hn @testV.eq_1
 refine wo (h:=bG (fun s e H=>∃ w1:List Int,∃ o1:List Int,(e 2=.adr [dI tch.length]∧e 6=.ptr 5 1 0 0∧e 7=.ptr 6 1 0 0∧e 14=dI (6 * (tch.length:Int)+1)∧e 15=dI s)∧(s≤37)∧(LI xs tch nn H w1 o1)) (fun s=>100 - s) 0 ⟨(List.replicate tch.length 0),o,wg,(by omega),(by exact ⟨hG.of (fun j hj=>by simp [go_sem,Y,show j≠4 by omega,show j≠5 by omega,show j≠6 by omega]),by simp [go_sem,Y],by simp [go_sem,Y],by simp [go_sem,Y,fillV,testV],by simp,by simp⟩)⟩ fun I0 hI0 s e H hi0=>?_)
 obtain ⟨w1,o1,E0,hs,hI1⟩:=hi0
 have Y:=wa Y (wa E0 (wa hI1.b5 (wa hI1.b6 @fillV.eq_1)))
 refine d7 (fun h5=>?_) fun h5=>?_
 ·have Y:=wa Y h5
  refine wv (h:=?_)
  unfold fB;refine GI hX tch.length 0 s w1 o1 _ _ (by omega) (by omega) (by omega) (by omega) hI1 (fun b w2 o2 H2 hI2 hn2=>?_)
  refine d7 (fun h7=>?_) fun h7=>?_
  ·have hb5:=hI2.b5
   have Y:=wa Y hb5
   refine wv (h:=?_)
   exact hQ _ _ w2 o2 H2 hI2
  ·exact wo (h:=wx hI0 (s+1) ⟨w2,o2,wg,(by omega),(by exact hI2)⟩)
 ·refine wv (h:=?_)
  exact hQ _ _ w1 o1 H hI1
theorem QA {α:Type}{f:α→Int}:∀ {l:List α},dL f l=0→∀ x∈l,f x=0:=by
 intro l
 induction l with
 | nil=>intro _ x hx;cases hx
 | cons a l ih =>
  intro h x hx
  simp only [dL] at h
  split at h
  ·rename_i h4;exact absurd h h4
  ·rename_i h4
   rcases bB.1 hx with rfl|hx
   ·omega
   ·exact ih h x hx
theorem j4 {t:Types}{rs:List Rule}(h:fT t rs=0):(cW t).2=0∧rs.length≤6∧dL (g8 t) rs=0∧(∀ r∈rs,g8 t r=0)∧(jS (t.nodes.length+t.edges.length) (rs.map (g7 t))).length≤6:=by
 unfold fT at h
 split at h
 ·rename_i h1;exact absurd h h1
 ·split at h
  ·cases h
  ·split at h
   ·rename_i h1;exact absurd h h1
   ·split at h
    ·cases h
    ·rename_i h1 h2 h3 h4
     exact ⟨by omega,by omega,by omega,QA (by omega),by omega⟩
theorem Nj {n:Nat}{ls:List (List Int)}:∀ v∈jS n ls,0≤v∧v<n:=fun v hv=>by
 unfold jS at hv
 rw [aU] at hv
 obtain ⟨k,hk,rfl⟩:=hv
 have:=aZ.1 (cO.1 hk).1
 omega
theorem PM {t:Types}{rs:List Rule}(h:fT t rs=0):FX (gC t rs) (Bl t rs) (t.nodes.length+t.edges.length):=by
 obtain ⟨h1,h2,h3,h4,h5⟩:=j4 h
 have hv:=fF h1
 have hN:=hv.fewN
 have hE:=hv.fewE
 have e1:gC t rs=rs.map (g7 t):=if_pos h
 have e2:Bl t rs=jS (t.nodes.length+t.edges.length) (rs.map (g7 t)):=if_pos h
 refine ⟨fun l hl=>?_,fun l hl=>?_,fun v hv=>?_,by rw [e2];exact h5,by omega⟩
 ·rw [e1,aU] at hl
  obtain ⟨r,hr,rfl⟩:=hl
  exact FW (h4 r hr)
 ·rw [e1,aU] at hl
  obtain ⟨r,hr,rfl⟩:=hl
  exact Ot
 ·rw [e2] at hv;exact Nj v hv
theorem Jk (t:Types)(ht:t.ok)(rs:List Rule)(hr:∀ r∈rs,r.ok)(Q:D→AHeap→Prop)
  (hQ:∀ d e H',(e=fT t rs∨fT t rs=0∧e=10)→(lW H' (.tup [d,dI e])).cl=true→Q (.tup [d,dI e]) H'):ACalls Tryz.prog 196 [t.d,.list (rs.map Rule.c)] .emp Q:=by
 refine (aH (cfg:=⟨fun t=>t==6||t==7||t==9,fun _=>[]⟩) Tz.mixed Tryz.func196 rfl rfl (aE rfl) (by kernel_rfl) ?_)
 have Y:=trivial
 refine wv (h:=aC (Eg t ht rs hr) wl ?_)
 refine d7 (fun h2=>?_) fun h2=>?_
 ·refine wv (h:=?_)
  exact hQ _ _ _ (.inl rfl) (by simp [go_sem])
 ·have hX:=PM h2
  have hv:=fF (j4 h2).1
  have hN:=hv.fewN
  have hE:=hv.fewE
  have hz:((t.nodes.length:Int)+t.edges.length).toNat=t.nodes.length+t.edges.length:=by omega
  have Y:=wa Y hz
  refine wo (h:=?_)
  unfold fB;refine Jj hX _ (List.replicate (t.nodes.length+t.edges.length) 0) ⟨by simp [go_sem,hz],by simp [go_sem,hz],by simp [go_sem,hz],by simp [go_sem,hz],by simp,by simp⟩ (by simp [go_sem]) _ (fun d b w2 o2 H2 hI2=>?_)
  refine eJ (fun h6=>?_) fun h6=>?_
  ·refine wv (h:=?_)
   exact hQ _ _ _ (.inr ⟨h2,rfl⟩) (by simp [go_sem])
  ·have hb2:=hI2.fi.b2
   have hb3:=hI2.fi.b3
   have hln:=hI2.fi.len
   have Y:=wa Y (wa hb2 (wa hb3 hln))
   refine wv (h:=?_)
   exact hQ _ _ _ (.inl h2.symm) (by simp [go_sem,Y])
theorem KB (t:Types)(ht:t.ok)(rs:List Rule)(hr:∀ r∈rs,r.ok):M2 Tryz.prog 196 [t.d,.list (rs.map Rule.c)] (fun r=>∃ v e,r=.tup [v,dI e]∧(e=fT t rs∨fT t rs=0∧e=10)) :=
 qJ (Jk t ht rs hr _ fun d e H' h hc=>⟨⟨gX H' d,e,rfl,h⟩,hc⟩)
theorem IP {f:Nat→Int}(h:∀ k,f k≤7):∀ n k,b9 f k n≤7
 | 0,k=>by simp [b9]
 | n+1,k=>by simp only [b9];split;exact h k;exact IP h n _
theorem Io:∀ (r l:List ByteArray),jW l r≤7
 | [],l=>by simp [jW]
 | s :: r,l=>by
  simp only [jW];split
  ·omega
  ·split
   ·omega
   ·exact Io r _
theorem Hu (x:Attr)(b:List Attr):c8 x b≤7:=by
 have h:kR x.names≤7:=by
  unfold kR;split
  ·omega
  ·exact Io _ _
 unfold c8
 split
 ·omega
 ·split
  ·omega
  ·split
   ·exact h
   ·split<;>omega
theorem RU (t:Types)(i:Nat):fY t i≤7:=by
 unfold fY
 split
 ·omega
 ·split
  ·omega
  ·split
   ·omega
   ·split
    ·omega
    ·split
     ·omega
     ·split
      ·omega
      ·refine IP (fun k=>?_) _ _
       split
       ·exact Hu _ _
       ·omega
theorem Sn (t:Types)(i:Nat):g6 t i≤7:=by
 unfold g6
 split
 ·omega
 ·split
  ·omega
  ·split
   ·omega
   ·split<;>omega
theorem Ak {f:Nat→Int}(h:∀ k,f k≤7){nm:Nat→ByteArray}{last:ByteArray × Int}(hl:last.2≤7):∀ n k,(d9 f nm last k n).2≤7
 | 0,k=>by simpa [d9] using hl
 | n+1,k=>by simp only [d9];split;exact h k;exact Ak h hl n _
theorem PQ (t:Types):(cW t).2≤7:=by
 unfold cW
 split
 ·decide
 ·split
  ·decide
  ·exact Ak (RU t) (Ak (Sn t) (by decide) _ _) _ _
theorem uA (t:Types)(ht:t.ok)(rs:List Rule)(hr:∀ r∈rs,r.ok):Pure Tryz.prog 110 [t.d,.list (rs.map Rule.c)] (.tup [.list ((gC t rs).map cL),dI (fT t rs)]):=by
 have hvl:=PQ t
 have hE0:fT t rs=10→dL (g8 t) rs=10∧rs.length≤6:=by
  intro h
  unfold fT at h
  split at h
  ·omega
  ·split at h
   ·omega
   ·split at h
    ·exact ⟨h,by omega⟩
    ·split at h<;>omega
 refine Tz.pK ⟨fun t=>t==8||t==10,fun _=>[]⟩ Tryz.func110 rfl (fun Q hQ=>?_)
 have Y:=trivial
 refine wv (h:=?_)
 unfold fB;refine vG (KB t ht rs hr) (by simp [go_sem]) (fun r hR hrc=>?_);obtain ⟨v,e0,rfl,he0⟩:=hR
 refine eJ (fun h2=>?_) fun h2=>?_
 ·have hE:fT t rs=e0:=by omega
  have hV:gC t rs=[]:=if_neg (by omega)
  exact wv (h:=hQ _ _ (by simp [go_sem,hE,hV]))
 ·have hE1:fT t rs=0∨fT t rs=10:=by omega
  have hEq:fT t rs=dL (g8 t) rs:=by
   rcases hE1 with h|h
   ·rw [h,(j4 h).2.2.1]
   ·rw [h,(hE0 h).1]
  have hlen:rs.length≤6:=by
   rcases hE1 with h|h
   ·exact (j4 h).2.1
   ·exact (hE0 h).2
  refine wo (h:=bG (fun i e H=>∃ xs:List (List Int),(e 2=.adr t.c∧e 1=.list (rs.map Rule.c)∧e 8=.own 0 xs.length∧e 26=.list (rs.map Rule.c)∧e 27=dI rs.length∧e 28=dI i)∧(H.get 0=some ⟨34,1,xs.map cL,false⟩)∧(0<H.next)∧(i≤rs.length)∧(xs=(rs.take i).map (g7 t))∧(dL (g8 t) (rs.drop i)=dL (g8 t) rs)) (fun i=>rs.length - i) 0 ⟨([]),wg,wn,wn,wi,(by rfl),(by rfl)⟩ fun I0 hI0 i e H hi0=>?_)
  obtain ⟨xs,E0,g0_0,n0_0,hi,hx,hL⟩:=hi0
  have Y:=wa Y (wa E0 (wa g0_0 (cG n0_0)))
  refine d7 (fun h6=>?_) fun h6=>?_
  ·have hst:=hL
   rw [e9 _ h6] at hst
   have hxl:xs.length=i:=by rw [hx];simp;omega
   have Y:=wa Y h6
   refine wo (h:=aC (GJ t ht rs[i] (hr _ (aB h6))) wl ?_)
   refine eJ (fun h9=>?_) fun h9=>?_
   ·rw [if_pos (by omega)] at hst
    have hV:gC t rs=[]:=if_neg (by omega)
    exact wv (h:=hQ _ _ (by simp [go_sem,hEq,hV,← hst]))
   ·rw [if_neg (by omega)] at hst
    exact wo (h:=wx hI0 (i+1) ⟨(xs++[g7 t rs[i]]),wg,wn,wn,wj,(by (rw [fJ _ h6,← hx])),(by exact hst)⟩)
  ·have hX:xs=rs.map (g7 t):=by rw [hx,gH _ (by omega)]
   have hL0:dL (g8 t) rs=0:=by rw [← hL,fM _ (by omega)]
   have hV:gC t rs=rs.map (g7 t):=if_pos (by omega)
   exact wv (h:=hQ _ _ (by simp [go_sem,Y,hEq,hL0,hV,← hX]))
theorem M6 {P:Program}{H:AHeap}{f:FuncId}{args:List D}{ty:TypeId}{sz:Nat}{es:List (List D)}{Q:D→AHeap→Prop}(hp:Own P f (args.map (gX H)) ty sz es)(hcl:D.clL (args.map (gX H))=true)(hf:∀ d∈es.flatten,d.flat=true)(hQ:Q (.list es) H):ACalls P f args H Q:=by
 refine ⟨hp.1,fun M0 σ w vals hR ha=>?_⟩
 obtain ⟨f1,f2,f3,f4⟩:=fH (args.flatMap dO) hR
 refine (hp.2 (c7 M0 (eW (args.flatMap dO) H) σ) w vals (sS f1) (gK (fun _ h=>h) (AF hR ha _ fun i h=>h) hcl)).mono fun e w' ⟨v,xs,he,hrow,h1,hrep,hcll,hsz,hb⟩=>?_
 obtain ⟨g1,g2,g3⟩:=hR.grow hb.os hb.tape hb.output hb.size hb.block
 have hv:RepV (c7 M0 H σ) gB pM w' v (.list es):=by
  rcases hrow.2 with ⟨hnil,h0⟩|⟨g,cap,cur,hval,hg,hcells,hnc,hcm,hsz',htake⟩
  ·rw [hnil,bW h0];exact .listN
  ·rw [hval]
   refine .list ⟨g,0,none⟩ cap sz xs es hnc hcm hsz hrep.len h1 (fun j u hu=>⟨fun hm=>?_,hrow.cells (g:=g) (by simp [hval,Value.ownBlock]) j u hu⟩) (fun j u d hu hd=>xH (hrep.rep j u d hu hd) (hf d (aK hd)))
   have:=sS hR g hm
   omega
 exact ⟨v,.list es,H,σ,he,g1,hv.keep r8,g2,g3,hQ⟩
theorem xI {P:Program}{md:Nat→Bool}{ops:Array Oper}{sp:List (Nat × Nat)}{n0 i:Nat}{rest:List Oper}{acc:List (Nat × List Nat)}{e:cY}{dst:Option Tmp}{K:cY→AHeap→Prop}{f:FuncId}{args args':List D}{H:AHeap}{ty:TypeId}{sz:Nat}{es:List (List D)}
  (hp:Own P f args' ty sz es) (ha:args.map (gX H)=args') (hcl:D.clL args'=true) (hf:∀ d∈es.flatten,d.flat=true) {S:List Nat} (hS:args.flatMap dO=S) (hc:Ke sp i S acc)
  (h:iS P md ops sp n0 (i+1) rest ((i,S) :: acc) (oW e dst (.list es)) H K):o7 P md ops sp n0 i rest acc e dst K f args H:=by
 subst ha hS
 unfold o7
 refine .inl ⟨.list es,_,fun H' hag=>?_,hc,h⟩
 have he:=Gt hag fun x hx=>hx
 exact M6 (by rw [he];exact hp) (by rw [he];exact hcl) hf ⟨rfl,rfl⟩
structure Bst where
 w:List Int
 s:Int
 d:Int
def Gk (B:Bst):D:=if B.w=[] then .nil else .list (B.w.map cI)
theorem SK (P:Program)(t:TypeId)(B:Bst)(H:AHeap):Nb P t .eql (Gk B) .nil H=⟨(sl P t).isSome=true,True,.bool (decide (B.w=[])),H⟩:=by
 unfold Gk
 by_cases h:B.w=[]
 ·simp [h,Nb]
 ·simp [h,Nb]
theorem OQ (w:List Int)(s d:Int)(h:w≠[]):Gk ⟨w,s,d⟩=.list (w.map cI):=if_neg h
def LG (xs:List (List Int))(w:List Int):Bool:=xs.any fun x=>decide (0<gM w x)
def xN (xs:List (List Int))(w:List Int):Int:=(xs.map fun x=>if gM w x<0 then (1:Int) else 0).sum
def lU (xs:List (List Int))(w:List Int)(s:Int)(B:Bst):Bst :=
 if LG xs w=true then B
 else if (decide (B.w=[])||decide (B.d<xN xs w)||(decide (xN xs w=B.d)&&decide (s<B.s)))=true then ⟨w,s,xN xs w⟩ else B
def yT (xs:List (List Int)):List Int→List Int→Int→Bst→Bst
 | [],w,s,B=>lU xs w s B
 | p :: ts,w,s,B=>(List.range 7).foldl (fun B (v:Nat)=>yT xs ts (w.set p.toNat v) (s+v) B) B
theorem fL {β:Type}(f:β→Nat→β)(b:β)(n:Nat):(List.range (n+1)).foldl f b=f ((List.range n).foldl f b) n:=by
 rw [bL,oX];rfl
structure FS (f e c q:Nat) (xs:List (List Int)) (tch:List Int) (nn:Nat) (H:AHeap) (w:List Int) (s:Int) (B:Bst):Prop where
 bf:H.get f=some ⟨204,7,[[.own e xs.length,.own c tch.length,.own q nn,dI s,Gk B,dI B.s,dI B.d]],false⟩
 be:H.get e=some ⟨34,1,xs.map cL,false⟩
 bc:H.get c=some ⟨3,1,tch.map cI,false⟩
 bq:H.get q=some ⟨3,1,w.map cI,false⟩
 len:w.length=nn
 dig:∀ x∈w,0≤x∧x≤6
theorem QU (xs:List (List Int))(w:List Int){i:Nat}(h:i<xs.length):xN (xs.take (i+1)) w=xN (xs.take i) w+(if gM w xs[i]<0 then 1 else 0):=sM xs (fun x=>if gM w x<0 then (1:Int) else 0) h
theorem bX (w:List Int):xN [] w=0:=rfl
theorem PB (w:List Int):∀ xs:List (List Int),0≤xN xs w∧xN xs w≤xs.length
 | []=>by simp [xN]
 | x :: xs=>by
  have h:=PB w xs
  have e:xN (x :: xs) w=(if gM w x<0 then (1:Int) else 0)+xN xs w:=by simp [xN]
  rw [e];simp only [eU];split<;>omega
theorem Ik {α:Type}:∀ {l:List α} {i j:Nat},l.Nodup→∀ (hi:i<l.length) (hj:j<l.length),l[i]=l[j]→i=j
 | [],i,j,_,hi,_,_=>absurd hi (by simp)
 | x :: l,0,0,_,_,_,_=>rfl
 | x :: l,0,j+1,h,_,hj,he=>by
  simp only [List.getElem_cons_zero,Jf] at he
  exact absurd (he ▸ aB _) (eE.1 h).1
 | x :: l,i+1,0,h,hi,_,he=>by
  simp only [List.getElem_cons_zero,Jf] at he
  exact absurd (he ▸ aB _) (eE.1 h).1
 | x :: l,i+1,j+1,h,hi,hj,he=>by
  simp only [Jf] at he
  rw [Ik (eE.1 h).2 _ _ he]
theorem Ry {tch:List Int}{w:List Int}{a:Nat}(hnd:tch.Nodup)(ha:a<tch.length)(h0:∀ x∈tch,0≤x)(hz:∀ j (h:j<tch.length),a≤j→w[tch[j].toNat]?.getD 0=0)(v:Int):∀ j (h:j<tch.length),a+1≤j→(w.set tch[a].toNat v)[tch[j].toNat]?.getD 0=0:=fun j hj hle=>by
 have hne:tch[a].toNat≠tch[j].toNat:=by
  intro h
  have h1:=h0 _ (aB ha)
  have h2:=h0 _ (aB hj)
  have h3:tch[a]=tch[j]:=by omega
  have:=Ik hnd ha hj h3
  omega
 rw [pG hne]
 exact hz j hj (by omega)
theorem Rz {w:List Int}{p:Nat}(h:w[p]?.getD 0=0):w.set p 0=w:=by
 apply eK
 intro j
 rw [c6]
 by_cases hj:p=j
 ·subst hj
  by_cases hp:p<w.length
  ·rw [aA hp] at h ⊢
   simp [hp] at h ⊢;omega
  ·rw [aX (by omega)];simp [hp]
 ·simp [hj]
theorem Oq (f ee c q:Nat)(hd:f≠ee∧f≠c∧f≠q∧ee≠c∧ee≠q∧c≠q)(xs:List (List Int))(tch:List Int)(nn:Nat)(hX:FX xs tch nn)(hx6:xs.length≤6)(hn0:0<nn)(hnd:tch.Nodup) :
  ∀ (k:Nat) (a:Nat) (w:List Int) (s:Int) (B:Bst) (G:AHeap) (Q:D→AHeap→Prop),a+k=tch.length→0≤s→s≤6 * a→(∀ j (h:j<tch.length),a≤j→w[tch[j].toNat]?.getD 0=0)→f<G.next→ee<G.next→c<G.next→q<G.next→FS f ee c q xs tch nn G w s B →
  (∀ H',FS f ee c q xs tch nn H' w s (yT xs (tch.drop a) w s B)→(∀ j,j≠f→j≠q→j<G.next→H'.get j=G.get j)→G.next≤H'.next→Q (.tup []) H')→ACalls Tryz.prog 117 [.ptr f 1 0 0,dI a] G Q:=by
 have hfew:=hX.few
 have hnf:=hX.nf
 obtain ⟨d1,d2,d3,d4,d5,d6⟩:=hd
 intro k
 induction k using Nat.strongRecOn with
 | _ k ih =>
 intro a w s B G Q hk hs0 hs1 hz hfN heN hcN hqN hF hQ
 obtain ⟨gf,ge,gc,gq,hln,hdg⟩:=hF
 have hbe:∀ H:AHeap,Nb Tryz.prog 34 .eql (Gk B) .nil H=_:=fun H=>SK Tryz.prog 34 B H
 unfold Nb at hbe
 simp [go_sem] at hbe
 refine (aH (cfg:=⟨fun _=>false,fun _=>[]⟩) Tz.mixed Tryz.func117 rfl rfl (aE rfl) (by kernel_rfl) ?_)
 try simp [go_sem,seval,gf,ge,gc,gq,hln,d1,d2,d3,d4,d5,d6,d1.symm,d2.symm,d3.symm,d4.symm,d5.symm,d6.symm,hbe,bX]
 repeat first|intro _|refine ⟨eI,?_⟩
 refine aJ (fun h0=>?_) (fun h0=>?_)
 ·try simp [go_sem] at h0
  have ha:a<tch.length:=by omega
  have hp:=hX.tb _ (aB ha)
  have hdrop:tch.drop a=tch[a] :: tch.drop (a+1):=cX ha
  try simp [go_sem,seval,gf,ge,gc,gq,hln,d1,d2,d3,d4,d5,d6,d1.symm,d2.symm,d3.symm,d4.symm,d5.symm,d6.symm,hbe,bX,aA ha]
  obtain ⟨I0,hI0⟩:∃ I0:Nat→cY→AHeap→Prop,∀ (v:Nat) (e:cY) (H:AHeap),I0 v e H↔(∃ w1:List Int,∃ B1:Bst,(e 0=.ptr f 1 0 0)∧(e 1=dI a)∧(e 16=dI v)∧(v≤7)∧(FS f ee c q xs tch nn H w1 s B1)∧(∀ x,w1.set tch[a].toNat x=w.set tch[a].toNat x)∧(B1=(List.range v).foldl (fun B (u:Nat)=>yT xs (tch.drop (a+1)) (w.set tch[a].toNat u) (s+u) B) B)∧(∀ j,j≠f→j≠q→j<G.next→H.get j=G.get j)∧(G.next≤H.next)):=⟨fun v e H=>_,fun _ _ _=>Iff.rfl⟩
  refine fZ I0 (fun v=>7 - v) (0) ((hI0 _ _ _).2 ⟨(w),(B),?_,?_,?_,(by omega),(by exact ⟨gf,ge,gc,gq,hln,hdg⟩),(by (intro x;rfl)),(by rfl),(by (intro j _ _ _;rfl)),(by exact bQ _)⟩) ?_
  iterate 3 (first|omega|(simp [go_sem,seval,gf,ge,gc,gq,hln,d1,d2,d3,d4,d5,d6,d1.symm,d2.symm,d3.symm,d4.symm,d5.symm,d6.symm,hbe,bX,aA ha]<;>omega))
  intro v e H hi0
  obtain ⟨w1,B1,q0_0,q1_0,q16_0,hv7,hF1,hw1,hB,hfr,hnx⟩:=(hI0 _ _ _).1 hi0
  have F0:=And.intro q0_0 (And.intro q1_0 q16_0)
  try simp [go_sem,seval,gf,ge,gc,gq,hln,d1,d2,d3,d4,d5,d6,d1.symm,d2.symm,d3.symm,d4.symm,d5.symm,d6.symm,hbe,bX,aA ha,F0,hF1.bf,hF1.be,hF1.bc,hF1.bq,hF1.len]
  refine aJ (fun h2=>?_) (fun h2=>?_)
  ·try simp [go_sem] at h2
   have hk1:tch[a].toNat<w1.length:=by have:=hF1.len;omega
   have hset:(List.map cI w1).set tch[a].toNat [D.int .i64 (v:Int)]=(List.map cI w).set tch[a].toNat [D.int .i64 (v:Int)]:=by
    have:=congrArg (List.map cI) (hw1 (v:Int))
    simpa [cK,cI,dI] using this
   try simp [go_sem,seval,gf,ge,gc,gq,hln,d1,d2,d3,d4,d5,d6,d1.symm,d2.symm,d3.symm,d4.symm,d5.symm,d6.symm,hbe,bX,aA ha,F0,hF1.bf,hF1.be,hF1.bc,hF1.bq,hF1.len,h2,aA hk1,hset]
   repeat first|intro _|refine ⟨eI,?_⟩
   unfold fB;refine ih (k - 1) (by omega) (a+1) (w.set tch[a].toNat v) (s+v) B1 _ _ (by omega) (by omega) (by omega) (Ry hnd ha (by have:=hX.tb;exact fun x hx=>(this x hx).1) hz _) (by simp [go_sem];omega) (by simp [go_sem];omega) (by simp [go_sem];omega) (by simp [go_sem];omega) ⟨by simp [go_sem,gf,ge,gc,gq,hln,d1,d2,d3,d4,d5,d6,d1.symm,d2.symm,d3.symm,d4.symm,d5.symm,d6.symm,hbe,bX,aA ha,F0,hF1.bf,hF1.be,hF1.bc,hF1.bq,hF1.len,h2,aA hk1,hset],by simp [go_sem,gf,ge,gc,gq,hln,d1,d2,d3,d4,d5,d6,d1.symm,d2.symm,d3.symm,d4.symm,d5.symm,d6.symm,hbe,bX,aA ha,F0,hF1.bf,hF1.be,hF1.bc,hF1.bq,hF1.len,h2,aA hk1,hset],by simp [go_sem,gf,ge,gc,gq,hln,d1,d2,d3,d4,d5,d6,d1.symm,d2.symm,d3.symm,d4.symm,d5.symm,d6.symm,hbe,bX,aA ha,F0,hF1.bf,hF1.be,hF1.bc,hF1.bq,hF1.len,h2,aA hk1,hset],by simp [go_sem,gf,ge,gc,gq,hln,d1,d2,d3,d4,d5,d6,d1.symm,d2.symm,d3.symm,d4.symm,d5.symm,d6.symm,hbe,bX,aA ha,F0,hF1.bf,hF1.be,hF1.bc,hF1.bq,hF1.len,h2,aA hk1,hset],by rw [dX];exact hln,oQ hdg _ (by omega)⟩ (fun H2 hF2 hf2 hn2=>?_);have gf2:=hF2.bf;have ge2:=hF2.be;have gc2:=hF2.bc;have gq2:=hF2.bq;have gl2:=hF2.len;simp [go_sem] at hn2;have hfr2:∀ j,j≠f→j≠q→j<G.next→H2.get j=G.get j:=fun j h1 h2 h3=>by rw [hf2 j h1 h2 (by simp [go_sem];omega)];simp [go_sem,h1,h2];exact hfr j h1 h2 h3
   try simp [go_sem,seval,gf,ge,gc,gq,hln,d1,d2,d3,d4,d5,d6,d1.symm,d2.symm,d3.symm,d4.symm,d5.symm,d6.symm,hbe,bX,aA ha,F0,hF1.bf,hF1.be,hF1.bc,hF1.bq,hF1.len,h2,aA hk1,hset,gf2,ge2,gc2,gq2,gl2]
   repeat first|intro _|refine ⟨eI,?_⟩
   refine bY (v+1) (by omega) ((hI0 _ _ _).2 ⟨(w.set tch[a].toNat v),(yT xs (tch.drop (a+1)) (w.set tch[a].toNat v) (s+v) B1),?_,?_,?_,(by omega),(by (exact ⟨by simp [go_sem,gf2],by simp [go_sem,ge2,d1.symm],by simp [go_sem,gc2,d2.symm],by simp [go_sem,gq2,d3.symm],gl2,hF2.dig⟩)),(by (intro x;simp)),(by (rw [fL,← hB])),(by (intro j h1 h2 h3;simp [go_sem,h1,h2];exact hfr2 j h1 h2 h3)),(by (simp [go_sem];omega))⟩)<;>first|omega|(simp [go_sem,seval,gf,ge,gc,gq,hln,d1,d2,d3,d4,d5,d6,d1.symm,d2.symm,d3.symm,d4.symm,d5.symm,d6.symm,hbe,bX,aA ha,F0,hF1.bf,hF1.be,hF1.bc,hF1.bq,hF1.len,h2,aA hk1,hset,gf2,ge2,gc2,gq2,gl2]<;>omega)
  ·try simp [go_sem] at h2
   have hk1:tch[a].toNat<w1.length:=by have:=hF1.len;omega
   have hset:(List.map cI w1).set tch[a].toNat [D.int .i64 0]=List.map cI w:=by
    have:=congrArg (List.map cI) ((hw1 0).trans (Rz (hz a ha (bQ _))))
    simpa [cK,cI,dI] using this
   have hB7:yT xs (tch.drop a) w s B=B1:=by
    rw [hdrop,hB,show v=7 by omega];rfl
   try simp [go_sem,seval,gf,ge,gc,gq,hln,d1,d2,d3,d4,d5,d6,d1.symm,d2.symm,d3.symm,d4.symm,d5.symm,d6.symm,hbe,bX,aA ha,F0,hF1.bf,hF1.be,hF1.bc,hF1.bq,hF1.len,aA hk1,hset]
   repeat first|intro _|refine ⟨eI,?_⟩
   exact hQ _ (by rw [hB7];exact ⟨by simp [go_sem,gf,ge,gc,gq,hln,d1,d2,d3,d4,d5,d6,d1.symm,d2.symm,d3.symm,d4.symm,d5.symm,d6.symm,hbe,bX,aA ha,F0,hF1.bf,hF1.be,hF1.bc,hF1.bq,hF1.len,aA hk1,hset],by simp [go_sem,gf,ge,gc,gq,hln,d1,d2,d3,d4,d5,d6,d1.symm,d2.symm,d3.symm,d4.symm,d5.symm,d6.symm,hbe,bX,aA ha,F0,hF1.bf,hF1.be,hF1.bc,hF1.bq,hF1.len,aA hk1,hset],by simp [go_sem,gf,ge,gc,gq,hln,d1,d2,d3,d4,d5,d6,d1.symm,d2.symm,d3.symm,d4.symm,d5.symm,d6.symm,hbe,bX,aA ha,F0,hF1.bf,hF1.be,hF1.bc,hF1.bq,hF1.len,aA hk1,hset],by simp [go_sem,gf,ge,gc,gq,hln,d1,d2,d3,d4,d5,d6,d1.symm,d2.symm,d3.symm,d4.symm,d5.symm,d6.symm,hbe,bX,aA ha,F0,hF1.bf,hF1.be,hF1.bc,hF1.bq,hF1.len,aA hk1,hset],hln,hdg⟩) (by intro j h1 h2 h3;simp [go_sem,h1,h2];exact hfr j h1 h2 h3) (by simp [go_sem];omega)
 ·try simp [go_sem] at h0
  have hwne:w≠[]:=by intro h;rw [h] at hln;simp at hln;omega
  have hak:a=tch.length:=by omega
  have hdrop:tch.drop a=[]:=eQ (by omega)
  try simp [go_sem,seval,gf,ge,gc,gq,hln,d1,d2,d3,d4,d5,d6,d1.symm,d2.symm,d3.symm,d4.symm,d5.symm,d6.symm,hbe,bX]
  repeat first|intro _|refine ⟨eI,?_⟩
  obtain ⟨I2,hI2⟩:∃ I2:Nat→cY→AHeap→Prop,∀ (i:Nat) (e:cY) (H:AHeap),I2 i e H↔((e 0=.ptr f 1 0 0)∧(e 1=dI a)∧(e 5=dI (xN (xs.take i) w))∧(e 68=.own ee xs.length)∧(e 69=dI xs.length)∧(e 70=dI i)∧(i≤xs.length)∧(LG (xs.take i) w=false)∧(H=G)):=⟨fun i e H=>_,fun _ _ _=>Iff.rfl⟩
  refine fZ I2 (fun i=>xs.length - i) (0) ((hI2 _ _ _).2 ⟨?_,?_,?_,?_,?_,?_,(by first|assumption|omega|(simp [go_sem,gf,ge,gc,gq,hln,d1,d2,d3,d4,d5,d6,d1.symm,d2.symm,d3.symm,d4.symm,d5.symm,d6.symm,hbe,bX];done)|(simp_all;done)),(by rfl),(by rfl)⟩) ?_
  iterate 6 (first|omega|(simp [go_sem,seval,gf,ge,gc,gq,hln,d1,d2,d3,d4,d5,d6,d1.symm,d2.symm,d3.symm,d4.symm,d5.symm,d6.symm,hbe,bX]<;>omega))
  intro i e H hi2
  obtain ⟨q0_2,q1_2,q5_2,q68_2,q69_2,q70_2,hi,hp,hHG⟩:=(hI2 _ _ _).1 hi2
  have F2:=And.intro q0_2 (And.intro q1_2 (And.intro q68_2 (And.intro q69_2 q70_2)))
  try simp [go_sem,seval,gf,ge,gc,gq,hln,d1,d2,d3,d4,d5,d6,d1.symm,d2.symm,d3.symm,d4.symm,d5.symm,d6.symm,hbe,bX,F2,q5_2,hHG,bX]
  refine aJ (fun h12=>?_) (fun h12=>?_)
  ·try simp [go_sem] at h12
   have hst:=QU xs w h12
   have hle:=PB w (xs.take i)
   rw [aV] at hle
   try simp [go_sem,seval,gf,ge,gc,gq,hln,d1,d2,d3,d4,d5,d6,d1.symm,d2.symm,d3.symm,d4.symm,d5.symm,d6.symm,hbe,bX,F2,q5_2,hHG,bX,h12,hst]
   repeat first|intro _|refine ⟨eI,?_⟩
   refine eR ((lC w xs[i] ⟨by rw [hX.xl _ (aB h12)];omega,by omega,fun x hx=>by have:=hdg x hx;omega,hX.xb _ (aB h12)⟩)) (by simp [sP,tI,eD,go_sem,← List.map_take,← List.map_drop,gf,ge,gc,gq,hln,d1,d2,d3,d4,d5,d6,d1.symm,d2.symm,d3.symm,d4.symm,d5.symm,d6.symm,hbe,bX,F2,q5_2,hHG,bX,h12,hst]) ((by first|rfl|(simp [go_sem,← List.map_take,← List.map_drop,gf,ge,gc,gq,hln,d1,d2,d3,d4,d5,d6,d1.symm,d2.symm,d3.symm,d4.symm,d5.symm,d6.symm,hbe,bX,F2,q5_2,hHG,bX,h12,hst];done))) ( rfl) ?_
   try simp [go_sem,seval,gf,ge,gc,gq,hln,d1,d2,d3,d4,d5,d6,d1.symm,d2.symm,d3.symm,d4.symm,d5.symm,d6.symm,hbe,bX,F2,q5_2,hHG,bX,h12,hst]
   repeat first|intro _|refine ⟨eI,?_⟩
   refine aJ (fun h15=>?_) (fun h15=>?_)
   ·try simp [go_sem] at h15
    have hpos:LG xs w=true:=List.any_eq_true.2 ⟨_,aB h12,by simp;omega⟩
    try simp [go_sem,seval,gf,ge,gc,gq,hln,d1,d2,d3,d4,d5,d6,d1.symm,d2.symm,d3.symm,d4.symm,d5.symm,d6.symm,hbe,bX,F2,q5_2,hHG,bX,h12,hst]
    exact hQ _ (by rw [hdrop];unfold yT lU;rw [if_pos hpos];exact ⟨gf,ge,gc,gq,hln,hdg⟩) (by intro j _ _ _;rfl) (bQ _)
   ·try simp [go_sem] at h15
    try simp [go_sem,seval,gf,ge,gc,gq,hln,d1,d2,d3,d4,d5,d6,d1.symm,d2.symm,d3.symm,d4.symm,d5.symm,d6.symm,hbe,bX,F2,q5_2,hHG,bX,h12,hst]
    refine aJ (fun h16=>?_) (fun h16=>?_)
    ·try simp [go_sem] at h16
     rw [if_pos (by omega)] at hst
     try simp [go_sem,seval,gf,ge,gc,gq,hln,d1,d2,d3,d4,d5,d6,d1.symm,d2.symm,d3.symm,d4.symm,d5.symm,d6.symm,hbe,bX,F2,q5_2,hHG,bX,h12,hst]
     repeat first|intro _|refine ⟨eI,?_⟩
     refine bY (i+1) (by omega) ((hI2 _ _ _).2 ⟨?_,?_,?_,?_,?_,?_,(by first|assumption|omega|(simp [go_sem,gf,ge,gc,gq,hln,d1,d2,d3,d4,d5,d6,d1.symm,d2.symm,d3.symm,d4.symm,d5.symm,d6.symm,hbe,bX,F2,q5_2,hHG,bX,h12,hst,h0,h15,h16];done)|(simp_all<;>omega)),(by (unfold LG at hp ⊢;rw [cC _ _ _ h12,hp];simp;omega)),(by (first|rfl|exact hHG))⟩)<;>first|omega|(simp [go_sem,seval,gf,ge,gc,gq,hln,d1,d2,d3,d4,d5,d6,d1.symm,d2.symm,d3.symm,d4.symm,d5.symm,d6.symm,hbe,bX,F2,q5_2,hHG,bX,h12,hst]<;>omega)
    ·try simp [go_sem] at h16
     rw [if_neg (by omega)] at hst
     try simp [go_sem,seval,gf,ge,gc,gq,hln,d1,d2,d3,d4,d5,d6,d1.symm,d2.symm,d3.symm,d4.symm,d5.symm,d6.symm,hbe,bX,F2,q5_2,hHG,bX,h12,hst]
     repeat first|intro _|refine ⟨eI,?_⟩
     refine bY (i+1) (by omega) ((hI2 _ _ _).2 ⟨?_,?_,?_,?_,?_,?_,(by first|assumption|omega|(simp [go_sem,gf,ge,gc,gq,hln,d1,d2,d3,d4,d5,d6,d1.symm,d2.symm,d3.symm,d4.symm,d5.symm,d6.symm,hbe,bX,F2,q5_2,hHG,bX,h12,hst,h0,h15,h16];done)|(simp_all<;>omega)),(by (unfold LG at hp ⊢;rw [cC _ _ _ h12,hp];simp;omega)),(by (first|rfl|exact hHG))⟩)<;>first|omega|(simp [go_sem,seval,gf,ge,gc,gq,hln,d1,d2,d3,d4,d5,d6,d1.symm,d2.symm,d3.symm,d4.symm,d5.symm,d6.symm,hbe,bX,F2,q5_2,hHG,bX,h12,hst]<;>omega)
  ·try simp [go_sem] at h12
   rw [aI (by omega)] at hp q5_2
   try simp [go_sem,seval,gf,ge,gc,gq,hln,d1,d2,d3,d4,d5,d6,d1.symm,d2.symm,d3.symm,d4.symm,d5.symm,d6.symm,hbe,bX,F2,q5_2,hHG,bX,q5_2]
   repeat first|intro _|refine ⟨eI,?_⟩
   refine aJ (fun h19=>?_) (fun h19=>?_)
   ·try simp [go_sem] at h19
    have hL:lU xs w s B=⟨w,s,xN xs w⟩:=by unfold lU;rw [if_neg (by simp [hp]),if_pos (by simpa only [bT,aL,decide_eq_true_eq] using h19)]
    try simp [go_sem,seval,gf,ge,gc,gq,hln,d1,d2,d3,d4,d5,d6,d1.symm,d2.symm,d3.symm,d4.symm,d5.symm,d6.symm,hbe,bX,F2,q5_2,hHG,bX,q5_2]
    refine xI (Gd w (by omega) hwne) (by simp [go_sem,gf,ge,gc,gq,hln,d1,d2,d3,d4,d5,d6,d1.symm,d2.symm,d3.symm,d4.symm,d5.symm,d6.symm,hbe,bX,F2,q5_2,hHG,bX,q5_2]) (by simp [go_sem]) (by intro d hd;rw [Bf,aU] at hd;obtain ⟨x,_,rfl⟩:=hd;rfl) rfl (by simp [go_sem]) ?_
    try simp [go_sem,seval,gf,ge,gc,gq,hln,d1,d2,d3,d4,d5,d6,d1.symm,d2.symm,d3.symm,d4.symm,d5.symm,d6.symm,hbe,bX,F2,q5_2,hHG,bX,q5_2]
    exact hQ _ (by rw [hdrop];unfold yT;rw [hL];exact ⟨by simp [go_sem,OQ _ _ _ hwne,dI],by simp [go_sem,gf,ge,gc,gq,hln,d1,d2,d3,d4,d5,d6,d1.symm,d2.symm,d3.symm,d4.symm,d5.symm,d6.symm,hbe,bX,F2,q5_2,hHG,bX,q5_2],by simp [go_sem,gf,ge,gc,gq,hln,d1,d2,d3,d4,d5,d6,d1.symm,d2.symm,d3.symm,d4.symm,d5.symm,d6.symm,hbe,bX,F2,q5_2,hHG,bX,q5_2],by simp [go_sem,gf,ge,gc,gq,hln,d1,d2,d3,d4,d5,d6,d1.symm,d2.symm,d3.symm,d4.symm,d5.symm,d6.symm,hbe,bX,F2,q5_2,hHG,bX,q5_2],hln,hdg⟩) (by intro j h1 h2 _;simp [go_sem,h1,h2]) (by simp [go_sem];omega)
   ·try simp [go_sem] at h19
    have hL:lU xs w s B=B:=by unfold lU;rw [if_neg (by simp [hp]),if_neg (by simp only [bT,aL,decide_eq_true_eq];rintro ((h|h)|⟨h,h'⟩);exact h19.1.1 h;omega;have:=h19.2 h;omega)]
    try simp [go_sem,seval,gf,ge,gc,gq,hln,d1,d2,d3,d4,d5,d6,d1.symm,d2.symm,d3.symm,d4.symm,d5.symm,d6.symm,hbe,bX,F2,q5_2,hHG,bX,q5_2]
    exact hQ _ (by rw [hdrop];unfold yT;rw [hL];exact ⟨gf,ge,gc,gq,hln,hdg⟩) (by intro j _ _ _;rfl) (by simp)
theorem La (t:Types)(hn:t.nodes.length≤1000000)(he:t.edges.length≤1000000):Pure Tryz.prog 107 [t.d] (dI ((t.nodes.length:Int)+t.edges.length)):=by
 refine Tz.pK ⟨fun _=>false,fun _=>[]⟩ Tryz.func107 rfl (fun Q hQ=>?_)
 have Y:=trivial
 exact wo (h:=hQ _ _ wy)
theorem wW (a b:List Int):Pure Tryz.prog 109 [dLI a,dLI b] (.bool (decide (a=b))):=by
 refine Tz.pK ⟨fun _=>false,fun _=>[]⟩ Tryz.func109 rfl (fun Q hQ=>?_)
 have Y:=trivial
 refine wv (h:=?_)
 repeat first|intro _|refine ⟨d8,?_⟩
 refine wq (fun h1=>?_) fun h1=>?_
 ·refine wv (h:=?_)
  have hne:a≠b:=by intro h;subst h;omega
  exact hQ _ _ (by simp [go_sem,hne])
 ·refine wv (h:=bG (fun i e H=>(e 0=dLI a∧e 1=dLI b∧e 5=dI i)∧(i≤a.length)∧(a.take i=b.take i)) (fun i=>a.length - i) 0 ⟨wg,wi,(by rfl)⟩ fun I0 hI0 i e H hi0=>?_)
  obtain ⟨E0,hi,he⟩:=hi0
  have Y:=wa Y E0
  refine wv (h:=?_)
  repeat first|intro _|refine ⟨d8,?_⟩
  refine wq (fun h4=>?_) fun h4=>?_
  ·have hib:i<b.length:=by omega
   have Y:=wa Y (wa h4 hib)
   refine wv (h:=?_)
   repeat first|intro _|refine ⟨d8,?_⟩
   refine wq (fun h6=>?_) fun h6=>?_
   ·refine wv (h:=?_)
    have hne:a≠b:=by intro h;subst h;exact h6 rfl
    exact hQ _ _ (by simp [go_sem,hne])
   ·exact wo (h:=wx hI0 (i+1) ⟨wg,wj,(by (rw [aF h4,aF hib,he,h6]))⟩)
  ·rw [aI (by omega),aI (by omega)] at he
   exact wv (h:=hQ _ _ (by simp [go_sem,he]))
end Go.Abs
end
