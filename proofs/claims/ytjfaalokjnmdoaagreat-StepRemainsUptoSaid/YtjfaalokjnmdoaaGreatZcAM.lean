/- The graph of a draft. · The pattern of a draft. · The right  -/
import Derived.Test.YtjfaalokjnmdoaaGreatZcAF
import Derived.Test.YtjfaalokjnmdoaaGreatZcAA
import Derived.Test.YtjfaalokjnmdoaaGreatZcAL
import Derived.Test.YtjfaalokjnmdoaaGreatZcAK
set_option linter.unusedVariables false
set_option linter.unusedSimpArgs false
section
set_option maxRecDepth 100000
set_option maxHeartbeats 4000000
open Go Go.Proofs
namespace Go.Abs
abbrev B3:=UInt8 × UInt8 × UInt8
def cT3 (x:B3):List D:=[.int .u8 (x.1.toNat:Int),.int .u8 (x.2.1.toNat:Int),.int .u8 (x.2.2.toNat:Int)]
@[go_sem] theorem BR (l:List B3):D.clLL (l.map cT3)=true:=c4 _ (fun _=>rfl) l
structure Dr5 where
 nodes:List UInt8
 edges:List B3
def Dr5.c (d:Dr5):List D:=[.list (d.nodes.map cU),.list (d.edges.map cT3)]
@[go_sem] theorem Dr5.cl (d:Dr5):D.clL d.c=true:=by simp [Dr5.c,D.clL,D.cl,OH,BR]
def Bq (n:Nat)(ds:List UInt8)(k:Nat):List Int:=(List.range k).map fun i=>((ds[i]?.getD 0).toNat:Int).tmod n
def PP (t:Types)(k:Int):EdgeTy:=t.edges[k.toNat]?.getD ⟨⟨#[]⟩,0,0,0,0,0,0⟩
def rP (l:List Int)(b:UInt8):Int:=l[((b.toNat:Int).tmod l.length).toNat]?.getD 0
def Eb (t:Types)(ns:List Int)(x:B3):List Edge :=
 if 0<(sV t ns (PP t ((x.1.toNat:Int).tmod t.edges.length)).from_).length∧0<(sV t ns (PP t ((x.1.toNat:Int).tmod t.edges.length)).to_).length then
  [⟨(x.1.toNat:Int).tmod t.edges.length,rP (sV t ns (PP t ((x.1.toNat:Int).tmod t.edges.length)).from_) x.2.1,rP (sV t ns (PP t ((x.1.toNat:Int).tmod t.edges.length)).to_) x.2.2⟩] else []
def Hq (t:Types)(ns:List Int)(es:List B3)(k:Nat):List Edge:=(List.range k).flatMap fun i=>Eb t ns (es[i]?.getD (0,0,0))
def fG (t:Types)(d:Dr5):Graph:=⟨Bq t.nodes.length d.nodes (min d.nodes.length 8),if t.edges.length=0 then [] else Hq t (Bq t.nodes.length d.nodes (min d.nodes.length 8)) d.edges (min d.edges.length 10)⟩
theorem Qz (n:Nat)(ds:List UInt8)(k:Nat):Bq n ds (k+1)=Bq n ds k++[((ds[k]?.getD 0).toNat:Int).tmod n]:=by simp [Bq,bJ]
theorem FR (n:Nat)(ds:List UInt8)(k:Nat):(Bq n ds k).length=k:=by simp [Bq]
theorem L0 {n:Nat}(hn:0<n){ds:List UInt8}{k:Nat}{x:Int}(h:x∈Bq n ds k):0≤x∧x<n:=by
 simp only [Bq,aT] at h
 obtain ⟨i,_,rfl⟩:=h
 exact b4 (by omega) (by omega)
theorem CI (t:Types)(ns:List Int)(es:List B3)(k:Nat):Hq t ns es (k+1)=Hq t ns es k++Eb t ns (es[k]?.getD (0,0,0)):=by simp [Hq,bJ]
theorem FQ (t:Types)(ns:List Int)(x:B3):(Eb t ns x).length≤1:=by unfold Eb;split<;>simp
theorem L1 (t:Types)(ns:List Int)(es:List B3):∀ k,(Hq t ns es k).length≤k
 | 0=>by simp [Hq]
 | k+1=>by rw [CI,aI];have:=L1 t ns es k;have:=FQ t ns (es[k]?.getD (0,0,0));omega
theorem GT {t:Types}{ns:List Int}{k x:Int}(h:x∈sV t ns k):0≤x∧x<ns.length:=by
 simp only [sV,aT,dN,bK] at h
 obtain ⟨i,⟨hi,_⟩,rfl⟩:=h;omega
theorem xD {l:List Int}(h:0<l.length)(b:UInt8):∃ hk:((b.toNat:Int).tmod l.length).toNat<l.length,rP l b=l[((b.toNat:Int).tmod l.length).toNat]:=by
 have:=b4 (show 0≤(b.toNat:Int) by omega) (show (0:Int)<l.length by omega)
 have hk:((b.toNat:Int).tmod l.length).toNat<l.length:=by omega
 exact ⟨hk,by unfold rP;rw [aA hk];rfl⟩
theorem tI {l:List Int}(h:0<l.length)(b:UInt8):rP l b∈l:=by
 obtain ⟨hk,e⟩:=xD h b
 rw [e];exact aC hk
theorem QA (t:Types)(ns:List Int)(es:List B3)(k:Nat):Graph.ends ⟨ns,Hq t ns es k⟩:=by
 intro x hx
 simp only [Hq,bQ] at hx
 obtain ⟨i,_,hx⟩:=hx
 unfold Eb at hx
 split at hx
 ·rename_i h
  simp only [aV] at hx
  subst hx
  exact ⟨GT (tI h.1 _),GT (tI h.2 _)⟩
 ·cases hx
theorem rZ (t:Types)(d:Dr5):(fG t d).ends:=by
 unfold fG
 split
 ·intro x hx;cases hx
 ·exact QA _ _ _ _
theorem qJ (t:Types)(d:Dr5):(fG t d).nodes.length≤8∧(fG t d).edges.length≤10:=by
 unfold fG
 refine ⟨by simp only [FR];omega,?_⟩
 split
 ·simp
 ·exact c6 (L1 _ _ _ _) (by omega)
theorem NL (t:Types)(ht:t.fine)(d:Dr5):Pure Tryz.prog 247 [t.d,.agg d.c,.bool true] (fG t d).d:=by
 have hfN:=ht.ok.fewN
 have hfE:=ht.ok.fewE
 have hne:=ht.valid.ne
 have hnn0:t.nodes≠[]:=by intro h;rw [h] at hne;simp at hne
 refine Tz.pK ⟨fun t=>t==6||t==7||t==9,fun r=>match r with|11=>[(0,14),(1,14)]|18=>[(0,30),(1,30)]|_=>[]⟩ Tryz.func247 rfl (fun Q hQ=>?_)
 try simp [go_sem,seval,Dr5.c]
 obtain ⟨I0,hI0⟩:∃ I0:Nat→cX→AHeap→Prop,∀ (i:Nat) (e:cX) (H:AHeap),I0 i e H↔((e 3=.adr t.c)∧(e 4=.adr d.c)∧(e 2=.bool true)∧(e 6=.ptr 0 1 0 0)∧(e 7=.own 1 i)∧(e 8=dI i)∧(H.get 0=some ⟨37,2,[[.nil,.nil]],false⟩)∧(0<H.next)∧(H.get 1=some ⟨3,1,(cF i).map cI,false⟩)∧(1<H.next)∧(i≤t.nodes.length)∧((cF i).length=i)):=⟨fun i e H=>_,fun _ _ _=>Iff.rfl⟩
 refine k6 I0 (fun i=>t.nodes.length - i) (0) ((hI0 _ _ _).2 ⟨?_,?_,?_,?_,?_,?_,?_,?_,(by rfl),?_,(by first|assumption|omega|(simp [go_sem,Dr5.c];done)|(simp_all;done)),(by (exact d9 _))⟩) ?_
 iterate 9 (first|omega|(simp [go_sem,seval,Dr5.c]<;>omega))
 intro i e H hi0
 obtain ⟨q3_0,q4_0,q2_0,q6_0,q7_0,q8_0,g0_0,n0_0,g1_0,n1_0,hi,hl⟩:=(hI0 _ _ _).1 hi0
 have x0:=b5 n0_0
 have x1:=b5 n1_0
 have F0:=And.intro q3_0 (And.intro q4_0 (And.intro q2_0 (And.intro q6_0 (And.intro q7_0 (And.intro q8_0 (And.intro g0_0 (And.intro g1_0 (And.intro x0 x1))))))))
 try simp [go_sem,seval,Dr5.c,F0,hl]
 repeat first|intro _|refine ⟨dQ,?_⟩
 refine aK (fun h3=>?_) (fun h3=>?_)
 ·try simp [go_sem] at h3
  try simp [go_sem,seval,Dr5.c,F0,hl,h3,aA h3]
  repeat first|intro _|refine ⟨dQ,?_⟩
  refine cT (i+1) (by omega) ((hI0 _ _ _).2 ⟨?_,?_,?_,?_,?_,?_,?_,?_,(by (simp [go_sem,Dr5.c,F0,hl,h3,aA h3,Cw])),?_,(by first|assumption|omega|(simp [go_sem,Dr5.c,F0,hl,h3,aA h3];done)|(simp_all<;>omega)),(by (exact d9 _))⟩)<;>first|omega|(simp [go_sem,seval,Dr5.c,F0,hl,h3,aA h3]<;>omega)
 ·try simp [go_sem] at h3
  have hI:i=t.nodes.length:=by omega
  subst hI
  have nx0:=Ph H.next
  try simp [go_sem,seval,Dr5.c,F0,hl,nx0]
  obtain ⟨I2,hI2⟩:∃ I2:Nat→cX→AHeap→Prop,∀ (i:Nat) (e:cX) (H:AHeap),I2 i e H↔(∃ c:Nat,∃ a:Nat,(e 3=.adr t.c)∧(e 4=.adr d.c)∧(e 2=.bool true)∧(e 6=.ptr 0 1 0 0)∧(e 7=.own 1 t.nodes.length)∧(e 9=.ptr c 1 0 0)∧(e 10=dI i)∧(H.get 0=some ⟨37,2,[[.nil,.nil]],false⟩)∧(0<H.next)∧(H.get 1=some ⟨3,1,(cF t.nodes.length).map cI,false⟩)∧(1<H.next)∧(H.get c=some ⟨37,2,[[.own a i,.nil]],false⟩)∧(c<H.next)∧(H.get a=some ⟨3,1,(Bq t.nodes.length d.nodes i).map cI,false⟩)∧(a<H.next)∧(i≤8)∧(i≤d.nodes.length)∧(1<c∧c<a)∧((Bq t.nodes.length d.nodes i).length=i)):=⟨fun i e H=>_,fun _ _ _=>Iff.rfl⟩
  refine Ap (Ghosts.step (Ghosts.refl _) H.next 0 0 3 1 _ _ ((by simp [go_sem,Dr5.c,F0,hl,nx0]:AHeap.get _ _=some ⟨37,2,[[.nil,.nil]],false⟩)) rfl rfl rfl) I2 (fun i=>8 - i) (0) ((hI2 _ _ _).2 ⟨(H.next),(H.next+1),?_,?_,?_,?_,?_,?_,?_,?_,?_,?_,?_,?_,?_,(by (simp [go_sem,Dr5.c,F0,hl,nx0,Bq])),?_,(by first|assumption|omega|(simp [go_sem,Dr5.c,F0,hl,nx0];done)|(simp_all;done)),(by first|assumption|omega|(simp [go_sem,Dr5.c,F0,hl,nx0];done)|(simp_all;done)),(by omega),(by (exact FR _ _ _))⟩) ?_
  iterate 14 (first|omega|(simp [go_sem,seval,Dr5.c,F0,hl,nx0]<;>omega))
  intro i e H hi2
  obtain ⟨c,a,q3_2,q4_2,q2_2,q6_2,q7_2,q9_2,q10_2,g0_2,n0_2,g1_2,n1_2,gc_2,nc_2,ga_2,na_2,hi,hid,hc,hml⟩:=(hI2 _ _ _).1 hi2
  have x0:=b5 n0_2
  have x1:=b5 n1_2
  have xc:=b5 nc_2
  have xa:=b5 na_2
  have F2:=And.intro q3_2 (And.intro q4_2 (And.intro q2_2 (And.intro q6_2 (And.intro q7_2 (And.intro q9_2 (And.intro q10_2 (And.intro g0_2 (And.intro g1_2 (And.intro gc_2 (And.intro ga_2 (And.intro x0 (And.intro x1 (And.intro xc xa)))))))))))))
  have di1:=And.intro (cY (show a≠c by omega)) (And.intro (cY (show a≠1 by omega)) (And.intro (cY (show a≠0 by omega)) (And.intro (cY (show c≠1 by omega)) (And.intro (cY (show c≠0 by omega)) (cY (show 1≠0 by omega))))))
  try simp [go_sem,seval,Dr5.c,hl,nx0,F2,hml,di1]
  repeat first|intro _|refine ⟨dQ,?_⟩
  refine aK (fun h9=>?_) (fun h9=>?_)
  ·try simp [go_sem] at h9
   have hx1:=iX d.nodes[i]
   have hgd:d.nodes[i]?.getD 0=d.nodes[i]:=by rw [aA (by omega)];rfl
   have htm:=b4 (show 0≤(d.nodes[i].toNat:Int) by omega) (show (0:Int)<t.nodes.length by omega)
   have hng:=mV (n:=t.nodes.length) (a:=((d.nodes[i].toNat:Int).tmod t.nodes.length).toNat) (by omega)
   rw [Int.toNat_of_nonneg htm.1] at hng
   have hne0:(t.nodes.length:Int)≠0:=by omega
   have hll:=d9 t.nodes.length
   try simp [go_sem,seval,Dr5.c,hl,nx0,F2,hml,di1,h9,aA (show i<d.nodes.length by omega),hng,hne0,cU,hll]
   repeat first|intro _|refine ⟨dQ,?_⟩
   refine cT (i+1) (by omega) ((hI2 _ _ _).2 ⟨(c),(a),?_,?_,?_,?_,?_,?_,?_,?_,?_,?_,?_,?_,?_,(by (simp [go_sem,Dr5.c,hl,nx0,F2,hml,di1,h9,aA (show i<d.nodes.length by omega),hng,hne0,cU,hll,Qz,hgd])),?_,(by first|assumption|omega|(simp [go_sem,Dr5.c,hl,nx0,F2,hml,di1,h9,aA (show i<d.nodes.length by omega),hng,hne0,cU,hll,h3];done)|(simp_all<;>omega)),(by first|assumption|omega|(simp [go_sem,Dr5.c,hl,nx0,F2,hml,di1,h9,aA (show i<d.nodes.length by omega),hng,hne0,cU,hll,h3];done)|(simp_all<;>omega)),(by omega),(by (exact FR _ _ _))⟩)<;>first|omega|(simp [go_sem,seval,Dr5.c,hl,nx0,F2,hml,di1,h9,aA (show i<d.nodes.length by omega),hng,hne0,cU,hll]<;>omega)
  ·try simp [go_sem] at h9
   have h9':¬ (i<d.nodes.length∧i<8):=fun h=>hnn0 (h9 h.1 (by omega))
   have hI2:i=min d.nodes.length 8:=by omega
   have hnm:∀ x∈Bq t.nodes.length d.nodes i,0≤x∧x<t.nodes.length:=fun x hx=>L0 hne hx
   obtain ⟨ns,hns⟩:∃ ns,Bq t.nodes.length d.nodes i=ns:=⟨_,rfl⟩
   rw [hns] at hml hnm
   try simp [go_sem,seval,Dr5.c,hl,nx0,F2,hml,di1,hns]
   obtain ⟨I4,hI4⟩:∃ I4:Nat→cX→AHeap→Prop,∀ (k:Nat) (e:cX) (H:AHeap),I4 k e H↔(∃ b:Nat,∃ ys:List Edge,(e 3=.adr t.c)∧(e 4=.adr d.c)∧(e 2=.bool true)∧(e 6=.ptr 0 1 0 0)∧(e 9=.ptr c 1 0 0)∧(e 11=dI k)∧(H.get 0=some ⟨37,2,[[.nil,.nil]],false⟩)∧(0<H.next)∧(H.get c=some ⟨37,2,[[.own a i,.own b ys.length]],false⟩)∧(c<H.next)∧(H.get a=some ⟨3,1,ns.map cI,false⟩)∧(a<H.next)∧(H.get b=some ⟨101,3,ys.map Edge.c,false⟩)∧(b<H.next)∧(k≤10)∧(k≤d.edges.length)∧(0<c∧c<a∧a<b)∧(ys=Hq t ns d.edges k)∧(t.edges.length=0→k=0)∧(ys.length≤k)):=⟨fun k e H=>_,fun _ _ _=>Iff.rfl⟩
   refine Ap (Ghosts.step (Ghosts.refl _) c 0 1 101 3 _ _ ((by simp [Dr5.c,hl,nx0,F2,hml,di1,hns]:AHeap.get _ _=some ⟨37,2,[[.own a i,.nil]],false⟩)) rfl rfl rfl) I4 (fun k=>10 - k) (0) ((hI4 _ _ _).2 ⟨(H.next),([]),?_,?_,?_,?_,?_,?_,?_,?_,?_,?_,?_,?_,?_,?_,(by first|assumption|omega|(simp [go_sem,Dr5.c,hl,nx0,F2,hml,di1,hns];done)|(simp_all;done)),(by first|assumption|omega|(simp [go_sem,Dr5.c,hl,nx0,F2,hml,di1,hns];done)|(simp_all;done)),(by omega),(by rfl),(by (intro _;rfl)),(by simp)⟩) ?_
   iterate 14 (first|omega|(simp [go_sem,seval,Dr5.c,hl,nx0,F2,hml,di1,hns]<;>omega))
   intro k e H hi4
   obtain ⟨b,ys,q3_4,q4_4,q2_4,q6_4,q9_4,q11_4,g0_4,n0_4,gc_4,nc_4,ga_4,na_4,gb_4,nb_4,hk,hkd,hb,hy,hz,hyl⟩:=(hI4 _ _ _).1 hi4
   have x0:=b5 n0_4
   have xc:=b5 nc_4
   have xa:=b5 na_4
   have xb:=b5 nb_4
   have F4:=And.intro q3_4 (And.intro q4_4 (And.intro q2_4 (And.intro q6_4 (And.intro q9_4 (And.intro q11_4 (And.intro g0_4 (And.intro gc_4 (And.intro ga_4 (And.intro gb_4 (And.intro x0 (And.intro xc (And.intro xa xb))))))))))))
   have di2:=And.intro (cY (show b≠a by omega)) (And.intro (cY (show b≠c by omega)) (And.intro (cY (show b≠0 by omega)) (And.intro (cY (show a≠c by omega)) (And.intro (cY (show a≠0 by omega)) (cY (show c≠0 by omega))))))
   try simp [go_sem,seval,Dr5.c,hl,nx0,hml,di1,hns,F4,di2]
   repeat first|intro _|refine ⟨dQ,?_⟩
   refine aK (fun h13=>?_) (fun h13=>?_)
   ·try simp [go_sem] at h13
    have hkl:k<d.edges.length:=by omega
    have hE0:0<t.edges.length:=by omega
    have hee0:t.edges≠[]:=by intro h;rw [h] at hE0;simp at hE0
    obtain ⟨x,hx⟩:∃ x,d.edges[k]=x:=⟨_,rfl⟩
    have hgx:d.edges[k]?.getD (0,0,0)=x:=by rw [aA hkl,← hx];rfl
    have hx1:=iX x.1
    have hx2:=iX x.2.1
    have hx3:=iX x.2.2
    have htm:=b4 (show 0≤(x.1.toNat:Int) by omega) (show (0:Int)<t.edges.length by omega)
    obtain ⟨q,hq⟩:∃ q:Nat,(x.1.toNat:Int).tmod t.edges.length=(q:Int):=⟨_,(Int.toNat_of_nonneg htm.1).symm⟩
    have hql:q<t.edges.length:=by omega
    have hed:PP t ((x.1.toNat:Int).tmod t.edges.length)=t.edges[q]:=by unfold PP;rw [hq,Int.toNat_natCast,aA hql];rfl
    have hends:=ht.valid.ends _ (aC hql)
    simp only [insideF,aJ,decide_eq_true_eq] at hends
    have hne0:(t.edges.length:Int)≠0:=by omega
    try simp [go_sem,seval,Dr5.c,hl,nx0,hml,di1,hns,F4,di2,h13,aA hkl,hx,hgx,cT3,hq,aA hql,hne0,Types.c]
    repeat first|intro _|refine ⟨dQ,?_⟩
    refine jA (Do t ht.valid ⟨ns,ys⟩ (by simp only;omega) hnm t.edges[q].from_ hends.1.1) (by simp [go_sem,Dr5.c,hl,nx0,hml,di1,hns,F4,di2,h13,aA hkl,hx,hgx,cT3,hq,aA hql,hne0,Types.c,Graph.d,Graph.c,dLI]) (by simp [go_sem]) (DL _) rfl (by simp [go_sem]) ?_
    try simp [go_sem,seval,Dr5.c,hl,nx0,hml,di1,hns,F4,di2,h13,aA hkl,hx,hgx,cT3,hq,aA hql,hne0,Types.c]
    repeat first|intro _|refine ⟨dQ,?_⟩
    refine jA (Do t ht.valid ⟨ns,ys⟩ (by simp only;omega) hnm t.edges[q].to_ hends.2.1) (by simp [go_sem,Dr5.c,hl,nx0,hml,di1,hns,F4,di2,h13,aA hkl,hx,hgx,cT3,hq,aA hql,hne0,Types.c,Graph.d,Graph.c,dLI]) (by simp [go_sem]) (DL _) rfl (by simp [go_sem]) ?_
    obtain ⟨la,hla⟩:∃ la,sV t ns t.edges[q].from_=la:=⟨_,rfl⟩
    obtain ⟨lb,hlb⟩:∃ lb,sV t ns t.edges[q].to_=lb:=⟨_,rfl⟩
    try simp [go_sem,seval,Dr5.c,hl,nx0,hml,di1,hns,F4,di2,h13,aA hkl,hx,hgx,cT3,hq,aA hql,hne0,Types.c,hla,hlb]
    repeat first|intro _|refine ⟨dQ,?_⟩
    refine aK (fun h17=>?_) (fun h17=>?_)
    ·try simp [go_sem] at h17
     have hab:0<la.length∧0<lb.length:=by omega
     obtain ⟨ka,hpa⟩:=xD hab.1 x.2.1
     obtain ⟨kb,hpb⟩:=xD hab.2 x.2.2
     have ta:=b4 (show 0≤(x.2.1.toNat:Int) by omega) (show (0:Int)<la.length by omega)
     have tb:=b4 (show 0≤(x.2.2.toNat:Int) by omega) (show (0:Int)<lb.length by omega)
     have hme:Eb t ns x=[⟨(q:Int),rP la x.2.1,rP lb x.2.2⟩]:=by unfold Eb;rw [hed,hla,hlb,if_pos hab,hq]
     have nla:¬la=[]:=by intro h;rw [h] at hab;simp at hab
     have nlb:¬lb=[]:=by intro h;rw [h] at hab;simp at hab
     have nl1:(la.length:Int)≠0:=by omega
     have nl2:(lb.length:Int)≠0:=by omega
     try simp [go_sem,seval,Dr5.c,hl,nx0,hml,di1,hns,F4,di2,h13,aA hkl,hx,hgx,cT3,hq,aA hql,hne0,Types.c,hla,hlb,aA ka,aA kb,hme,hpa,hpb,nl1,nl2]
     repeat first|intro _|refine ⟨dQ,?_⟩
     refine cT (k+1) (by omega) ((hI4 _ _ _).2 ⟨(b),(ys++Eb t ns (d.edges[k]?.getD (0,0,0))),?_,?_,?_,?_,?_,?_,?_,?_,?_,?_,?_,?_,?_,?_,(by first|assumption|omega|(simp [go_sem,Dr5.c,hl,nx0,hml,di1,hns,F4,di2,h13,aA hkl,hx,hgx,cT3,hq,aA hql,hne0,Types.c,hla,hlb,aA ka,aA kb,hme,hpa,hpb,nl1,nl2,h3,h9,h17];done)|(simp_all<;>omega)),(by first|assumption|omega|(simp [go_sem,Dr5.c,hl,nx0,hml,di1,hns,F4,di2,h13,aA hkl,hx,hgx,cT3,hq,aA hql,hne0,Types.c,hla,hlb,aA ka,aA kb,hme,hpa,hpb,nl1,nl2,h3,h9,h17];done)|(simp_all<;>omega)),(by omega),(by (rw [CI,← hy])),(by omega),(by (rw [aI];have:=FQ t ns (d.edges[k]?.getD (0,0,0));omega))⟩)<;>first|omega|(simp [go_sem,seval,Dr5.c,hl,nx0,hml,di1,hns,F4,di2,h13,aA hkl,hx,hgx,cT3,hq,aA hql,hne0,Types.c,hla,hlb,aA ka,aA kb,hme,hpa,hpb,nl1,nl2]<;>omega)
    ·try simp [go_sem] at h17
     have hme:Eb t ns x=[]:=by unfold Eb;rw [hed,hla,hlb,if_neg (fun h=>by have h2:=h17 h.1;rw [h2] at h;simp at h)]
     try simp [go_sem,seval,Dr5.c,hl,nx0,hml,di1,hns,F4,di2,h13,aA hkl,hx,hgx,cT3,hq,aA hql,hne0,Types.c,hla,hlb,hme]
     repeat first|intro _|refine ⟨dQ,?_⟩
     refine cT (k+1) (by omega) ((hI4 _ _ _).2 ⟨(b),(ys++Eb t ns (d.edges[k]?.getD (0,0,0))),?_,?_,?_,?_,?_,?_,?_,?_,?_,?_,?_,?_,?_,?_,(by first|assumption|omega|(simp [go_sem,Dr5.c,hl,nx0,hml,di1,hns,F4,di2,h13,aA hkl,hx,hgx,cT3,hq,aA hql,hne0,Types.c,hla,hlb,hme,h3,h9,h17];done)|(simp_all<;>omega)),(by first|assumption|omega|(simp [go_sem,Dr5.c,hl,nx0,hml,di1,hns,F4,di2,h13,aA hkl,hx,hgx,cT3,hq,aA hql,hne0,Types.c,hla,hlb,hme,h3,h9,h17];done)|(simp_all<;>omega)),(by omega),(by (rw [CI,← hy])),(by omega),(by (rw [aI];have:=FQ t ns (d.edges[k]?.getD (0,0,0));omega))⟩)<;>first|omega|(simp [go_sem,seval,Dr5.c,hl,nx0,hml,di1,hns,F4,di2,h13,aA hkl,hx,hgx,cT3,hq,aA hql,hne0,Types.c,hla,hlb,hme]<;>omega)
   ·try simp [go_sem] at h13
    have h13':k<d.edges.length→k<10→t.edges.length=0:=fun a b=>by rw [h13 a (by omega)];rfl
    have hfin:fG t d=⟨ns,ys⟩:=by
     unfold fG
     rw [← hI2,hns]
     split
     ·rename_i h0;have:=hz h0;subst this;rw [hy];rfl
     ·rename_i hn0;rw [hy,show k=min d.edges.length 10 by
       have hq:¬ (k<d.edges.length∧k<10):=fun hq=>hn0 (h13' hq.1 hq.2)
       omega]
    try simp [go_sem,seval,Dr5.c,hl,nx0,hml,di1,hns,F4,di2]
    exact hQ _ _ (by first|(left;(simp [go_sem,Dr5.c,hl,nx0,hml,di1,hns,F4,di2,hfin]);done)|(right;(simp [go_sem,Dr5.c,hl,nx0,hml,di1,hns,F4,di2,hfin]);done))
structure Dr21 where
 graph:Dr5
 slots:List B3
 tests:List T4
def Dr21.c (d:Dr21):List D:=[.list (d.graph.nodes.map cU),.list (d.graph.edges.map cT3),.list (d.slots.map cT3),.list (d.tests.map cT4)]
@[go_sem] theorem Dr21.cl (d:Dr21):D.clL d.c=true:=by simp [Dr21.c,D.clL,D.cl,OH,BR,PC]
def c2 (x:Nat × Nat):List D:=[dI x.1,dI x.2]
def TZ (t:Types)(ns:List Int)(i:Nat):List Attr:=bI t (ns[i]?.getD 0)
def GU (t:Types)(ns:List Int)(i k:Nat):List (Nat × Nat):=(List.range k).map fun j=>(i,j)
def zL (t:Types)(ns:List Int)(k:Nat):List (Nat × Nat):=(List.range k).flatMap fun i=>GU t ns i (TZ t ns i).length
theorem IX (t:Types)(ns:List Int):zL t ns 0=[]:=rfl
theorem y9 (t:Types)(ns:List Int)(k:Nat):zL t ns (k+1)=zL t ns k++GU t ns k (TZ t ns k).length:=by simp [zL,bJ]
theorem Q0 (t:Types)(ns:List Int)(i k:Nat):GU t ns i (k+1)=GU t ns i k++[(i,k)]:=by simp [GU,bJ]
theorem BV (t:Types)(ns:List Int)(i k:Nat):(GU t ns i k).length=k:=by simp [GU]
theorem GV (t:Types)(ht:t.fine)(ns:List Int):∀ k,(zL t ns k).length≤8 * k
 | 0=>by simp [zL]
 | k+1=>by rw [y9,aI,BV];have:=GV t ht ns k;have:=(ht.good (ns[k]?.getD 0)).2;unfold TZ;omega
def nM (all:List (Nat × Nat))(b:UInt8):Nat × Nat:=all[((b.toNat:Int).tmod all.length).toNat]?.getD (0,0)
def Qy (all:List (Nat × Nat))(st:List Slot × Int)(x:B3):List Slot × Int :=
 if st.2≤(x.2.1.toNat:Int).tmod 5 - 1 then
  if 3<st.2+1 then (st.1++[⟨(nM all x.1).1,(nM all x.1).2,⟨0,0⟩⟩],3) else (st.1++[⟨(nM all x.1).1,(nM all x.1).2,⟨st.2,0⟩⟩],st.2+1)
 else (st.1++[⟨(nM all x.1).1,(nM all x.1).2,⟨(x.2.1.toNat:Int).tmod 5 - 1,(x.2.2.toNat:Int).tmod 5 - 2⟩⟩],st.2)
def tT (all:List (Nat × Nat))(ds:List B3)(k:Nat):List Slot × Int:=(List.range k).foldl (fun st i=>Qy all st (ds[i]?.getD (0,0,0))) ([],0)
theorem CH (all:List (Nat × Nat))(ds:List B3)(k:Nat):tT all ds (k+1)=Qy all (tT all ds k) (ds[k]?.getD (0,0,0)):=by simp [tT,bJ]
theorem yP (all:List (Nat × Nat))(ds:List B3):∀ k,(tT all ds k).1.length=k∧0≤(tT all ds k).2∧(tT all ds k).2≤3
 | 0=>by simp [tT]
 | k+1=>by
  obtain ⟨h1,h2,h3⟩:=yP all ds k
  rw [CH]
  unfold Qy
  split
  ·split
   ·simp only [aI,oI];omega
   ·simp only [aI,oI];omega
  ·simp only [aI,oI];omega
def FP (v:Int)(ts:List T4)(k:Nat):List Test:=(List.range k).map fun i=>made3 v (ts[i]?.getD (0,0,0,0))
theorem Qx (v:Int)(ts:List T4)(k:Nat):FP v ts (k+1)=FP v ts k++[made3 v (ts[k]?.getD (0,0,0,0))]:=by simp [FP,bJ]
theorem Bp (v:Int)(ts:List T4)(k:Nat):(FP v ts k).length=k:=by simp [FP]
def IY (t:Types)(d:Dr21):List (Nat × Nat):=zL t (fG t d.graph).nodes (fG t d.graph).nodes.length
def iZ (t:Types)(d:Dr21):List Slot × Int:=if (IY t d).length=0 then ([],0) else tT (IY t d) d.slots (min d.slots.length 4)
def dF (t:Types)(d:Dr21):Pattern:=⟨fG t d.graph,(iZ t d).1,(iZ t d).2,FP (iZ t d).2 d.tests (min d.tests.length 3)⟩
theorem NK (t:Types)(ht:t.fine)(d:Dr21):Pure Tryz.prog 149 [t.d,.agg d.c] (dF t d).d:=by
 obtain ⟨G,hG⟩:∃ G,fG t d.graph=G:=⟨_,rfl⟩
 have hGl:=qJ t d.graph
 rw [hG] at hGl
 refine Tz.pK ⟨fun t=>t==4||t==5||t==6||t==12||t==13||t==14,fun r=>match r with|27=>[(0,10),(1,10)]|_=>[]⟩ Tryz.func149 rfl (fun Q hQ=>?_)
 have Y:=wa @Dr21.c.eq_1 @IX
 refine wv (h:=aB ((by have hq:=NL t ht d.graph;rw [hG] at hq;exact hq)) wl ?_)
 refine wv (h:=bP (fun i e H=>(e 2=.adr t.c∧e 3=.adr d.c∧e 5=.ptr 1 1 0 0∧e 4=.ptr 0 1 0 0∧e 6=.own 2 (zL t G.nodes i).length∧e 7=dI i)∧(H.get 0=some ⟨53,5,[[.nil,.nil,.nil,dI 0,.nil]],false⟩)∧(0<H.next)∧(H.get 1=some ⟨53,5,[[dLI G.nodes,.list (G.edges.map Edge.c),.nil,dI 0,.nil]],false⟩)∧(1<H.next)∧(H.get 2=some ⟨319,2,(zL t G.nodes i).map c2,false⟩)∧(2<H.next)∧(i≤G.nodes.length)) (fun i=>G.nodes.length - i) 0 ⟨wg,wn,wn,wn,wn,(by (simp [go_sem,zL])),wn,wi⟩ fun I0 hI0 i e H hi0=>?_)
 obtain ⟨E0,g0_0,n0_0,g1_0,n1_0,g2_0,n2_0,hi⟩:=hi0
 have Y:=wa Y (wa E0 (wa g0_0 (wa (b5 n0_0) (wa g1_0 (wa (b5 n1_0) (wa g2_0 (b5 n2_0)))))))
 refine yE (fun h4=>?_) fun h4=>?_
 ·have hAl:=(ht.good G.nodes[i]).2
  have hAN:TZ t G.nodes i=bI t G.nodes[i]:=by simp [TZ,aA h4]
  have hal:=GV t ht G.nodes i
  have Y:=wa Y (wa h4 (aA h4))
  refine wp (h:=aQ (rM t ht.ok G.nodes[i]) wl ?_)
  refine wp (h:=bP (fun k e H=>(e 2=.adr t.c∧e 3=.adr d.c∧e 5=.ptr 1 1 0 0∧e 4=.ptr 0 1 0 0∧e 6=.own 2 ((zL t G.nodes i).length+k)∧e 7=dI i∧e 8=.list ((bI t G.nodes[i]).map Attr.c)∧e 10=dI k)∧(H.get 0=some ⟨53,5,[[.nil,.nil,.nil,dI 0,.nil]],false⟩)∧(0<H.next)∧(H.get 1=some ⟨53,5,[[dLI G.nodes,.list (G.edges.map Edge.c),.nil,dI 0,.nil]],false⟩)∧(1<H.next)∧(H.get 2=some ⟨319,2,(zL t G.nodes i).map c2++(GU t G.nodes i k).map c2,false⟩)∧(2<H.next)∧(k≤(bI t G.nodes[i]).length)∧((GU t G.nodes i k).length=k)) (fun k=>(bI t G.nodes[i]).length - k) 0 ⟨wg,wn,wn,wn,wn,(by (simp [go_sem,Y,GU])),wn,wi,(by (exact BV _ _ _ _))⟩ fun I2 hI2 k e H hi2=>?_)
  obtain ⟨E2,g0_2,n0_2,g1_2,n1_2,g2_2,n2_2,hk,hrl⟩:=hi2
  have Y:=wa Y (wa E2 (wa g0_2 (wa (b5 n0_2) (wa g1_2 (wa (b5 n1_2) (wa g2_2 (wa (b5 n2_2) hrl)))))))
  refine yE (fun h8=>?_) fun h8=>?_
  ·have Y:=wa Y h8
   exact wp (h:=wx hI2 (k+1) ⟨wg,wn,wn,wn,wn,(by (simp [go_sem,Y,Q0,c2])),wn,wj,(by (exact BV _ _ _ _))⟩)
  ·have hK:k=(bI t G.nodes[i]).length:=by omega
   have hAt:(zL t G.nodes (i+1)).length=(zL t G.nodes i).length+k:=by rw [y9,aI,BV,hAN,hK]
   subst hK
   exact wp (h:=wx hI0 (i+1) ⟨wg,wn,wn,wn,wn,(by (simp [go_sem,Y,y9,hAt,hAN])),wn,wj⟩)
 ·have hI:i=G.nodes.length:=by omega
  obtain ⟨all,hall⟩:∃ all,zL t G.nodes i=all:=⟨_,rfl⟩
  have hal:=GV t ht G.nodes i
  rw [hall] at hal
  have Y:=wa Y hall
  refine wv (h:=uZ (Ghosts.step (Ghosts.refl _) 1 0 2 99 4 _ _ (g1_0) rfl rfl rfl) (fun n e H=>∃ j:Nat,∃ sl:List Slot,∃ v:Int,(e 2=.adr t.c∧e 3=.adr d.c∧e 5=.ptr 1 1 0 0∧e 4=.ptr 0 1 0 0∧e 6=.own 2 all.length∧e 11=dI n)∧(H.get 0=some ⟨53,5,[[.nil,.nil,.nil,dI 0,.nil]],false⟩)∧(0<H.next)∧(H.get 1=some ⟨53,5,[[dLI G.nodes,.list (G.edges.map Edge.c),.own j sl.length,dI v,.nil]],false⟩)∧(1<H.next)∧(H.get 2=some ⟨319,2,all.map c2,false⟩)∧(2<H.next)∧(H.get j=some ⟨99,4,sl.map Slot.c,false⟩)∧(j<H.next)∧(n≤4)∧(n≤d.slots.length)∧((sl,v)=tT all d.slots n)∧(all.length=0→n=0)∧(2<j)) (fun n=>4 - n) 0 ⟨H.next,([]),0,wg,wn,wn,wn,wn,wn,wn,wn,wn,wi,wi,(by rfl),(by (intro _;rfl)),(by omega)⟩ fun I4 hI4 n e H hi4=>?_)
  obtain ⟨j,sl,v,E4,g0_4,n0_4,g1_4,n1_4,g2_4,n2_4,gj_4,nj_4,hn,hnd,hst,hz,hj2⟩:=hi4
  have di1:=And.intro (cY (show j≠2 by omega)) (And.intro (cY (show j≠1 by omega)) (And.intro (cY (show j≠0 by omega)) (And.intro (cY (show 2≠1 by omega)) (And.intro (cY (show 2≠0 by omega)) (cY (show 1≠0 by omega))))))
  have Y:=wa Y (wa E4 (wa g0_4 (wa (b5 n0_4) (wa g1_4 (wa (b5 n1_4) (wa g2_4 (wa (b5 n2_4) (wa gj_4 (wa (b5 nj_4) di1)))))))))
  refine yE (fun h12=>?_) fun h12=>?_
  ·have hnl:n<d.slots.length:=by omega
   have ha0:0<all.length:=by omega
   have hann:¬all=[]:=by intro h;rw [h] at ha0;simp at ha0
   obtain ⟨x,hx⟩:∃ x,d.slots[n]=x:=⟨_,rfl⟩
   have hgx:d.slots[n]?.getD (0,0,0)=x:=by rw [aA hnl,← hx];rfl
   have hx1:=iX x.1
   have hx2:=iX x.2.1
   have hx3:=iX x.2.2
   have hin:=yP all d.slots n
   rw [← hst] at hin
   simp only at hin
   have tm:=b4 (show 0≤(x.1.toNat:Int) by omega) (show (0:Int)<all.length by omega)
   have t2:=b4 (show 0≤(x.2.1.toNat:Int) by omega) (show (0:Int)<5 by omega)
   have t3:=b4 (show 0≤(x.2.2.toNat:Int) by omega) (show (0:Int)<5 by omega)
   have hal2:((x.1.toNat:Int).tmod all.length).toNat<all.length:=by omega
   have hat:all[((x.1.toNat:Int).tmod all.length).toNat]=nM all x.1:=by unfold nM;rw [aA hal2];rfl
   have hne0:(all.length:Int)≠0:=by omega
   have hs1:tT all d.slots (n+1)=Qy all (sl,v) x:=by rw [CH,hgx,← hst]
   unfold Qy at hs1
   have nx:=Ph H.next
   have Y:=wa Y (wa h12 (wa (aA hnl) (wa hx (wa @cT3.eq_1 (wa (aA hal2) (wa hat (wa hne0 (wa @c2.eq_1 nx))))))))
   refine yE (fun h17=>?_) fun h17=>?_
   ·rw [if_pos (by simp only;omega)] at hs1
    refine yE (fun h20=>?_) fun h20=>?_
    ·rw [if_pos (by simp only;omega)] at hs1
     obtain ⟨sl',hsl'⟩:∃ y:List Slot,y=sl++[⟨(nM all x.1).1,(nM all x.1).2,⟨0,0⟩⟩]:=⟨_,rfl⟩
     obtain ⟨v',hv'⟩:∃ y:Int,y=3:=⟨_,rfl⟩
     have hst':(sl',v')=tT all d.slots (n+1):=by rw [hs1,hsl',hv']
     have Y:=wa Y (wa hsl' hv')
     exact wp (h:=wx hI4 (n+1) ⟨j,sl',v',wg,wn,wn,wn,wn,wn,wn,wn,wn,wj,wj,(by exact hst'),(by omega),(by omega)⟩)
    ·rw [if_neg (by simp only;omega)] at hs1
     obtain ⟨sl',hsl'⟩:∃ y:List Slot,y=sl++[⟨(nM all x.1).1,(nM all x.1).2,⟨v,0⟩⟩]:=⟨_,rfl⟩
     obtain ⟨v',hv'⟩:∃ y:Int,y=v+1:=⟨_,rfl⟩
     have hst':(sl',v')=tT all d.slots (n+1):=by rw [hs1,hsl',hv']
     have Y:=wa Y (wa hsl' hv')
     exact wp (h:=wx hI4 (n+1) ⟨j,sl',v',wg,wn,wn,wn,wn,wn,wn,wn,wn,wj,wj,(by exact hst'),(by omega),(by omega)⟩)
   ·rw [if_neg (by simp only;omega)] at hs1
    have h3v:¬ (3:Int)<v:=by omega
    obtain ⟨sl',hsl'⟩:∃ y:List Slot,y=sl++[⟨(nM all x.1).1,(nM all x.1).2,⟨(x.2.1.toNat:Int).tmod 5 - 1,(x.2.2.toNat:Int).tmod 5 - 2⟩⟩]:=⟨_,rfl⟩
    obtain ⟨v',hv'⟩:∃ y:Int,y=v:=⟨_,rfl⟩
    have hst':(sl',v')=tT all d.slots (n+1):=by rw [hs1,hsl',hv']
    have Y:=wa Y (wa hsl' (wa hv' h3v))
    exact wp (h:=wx hI4 (n+1) ⟨j,sl',v',wg,wn,wn,wn,wn,wn,wn,wn,wn,wj,wj,(by exact hst'),(by omega),(by omega)⟩)
  ·have hin:=yP all d.slots n
   rw [← hst] at hin
   simp only at hin
   have hv3:0≤v∧v≤1000:=by omega
   have hS:iZ t d=(sl,v):=by
    unfold iZ IY
    rw [hG,← hI,hall,hst]
    split
    ·rename_i h0;rw [hz h0];rfl
    ·rename_i h0
     have hq:¬ (n<d.slots.length∧n<4):=fun h=>h0 (by rw [h12 h.1 (by omega)];rfl)
     rw [show n=min d.slots.length 4 by omega]
   refine wv (h:=uZ (Ghosts.step (Ghosts.refl _) 1 0 4 292 5 _ _ (g1_4) rfl rfl rfl) (fun m e H=>∃ q:Nat,(e 2=.adr t.c∧e 3=.adr d.c∧e 5=.ptr 1 1 0 0∧e 4=.ptr 0 1 0 0∧e 15=dI m)∧(H.get 0=some ⟨53,5,[[.nil,.nil,.nil,dI 0,.nil]],false⟩)∧(0<H.next)∧(H.get 1=some ⟨53,5,[[dLI G.nodes,.list (G.edges.map Edge.c),.own j sl.length,dI v,.own q m]],false⟩)∧(1<H.next)∧(H.get j=some ⟨99,4,sl.map Slot.c,false⟩)∧(j<H.next)∧(H.get q=some ⟨292,5,(FP v d.tests m).map Test.c,false⟩)∧(q<H.next)∧(m≤3)∧(m≤d.tests.length)∧(1<j∧j<q)∧((FP v d.tests m).length=m)) (fun m=>3 - m) 0 ⟨H.next,wg,wn,wn,wn,wn,wn,wn,(by (simp [go_sem,Y,FP])),wn,wi,wi,(by omega),(by (exact Bp _ _ _))⟩ fun I6 hI6 m e H hi6=>?_)
   obtain ⟨q,E6,g0_6,n0_6,g1_6,n1_6,gj_6,nj_6,gq_6,nq_6,hm,hmd,hjq,htl⟩:=hi6
   have di2:=And.intro (cY (show q≠j by omega)) (And.intro (cY (show q≠1 by omega)) (And.intro (cY (show q≠0 by omega)) (And.intro (cY (show j≠1 by omega)) (And.intro (cY (show j≠0 by omega)) (cY (show 1≠0 by omega))))))
   have Y:=wa Y (wa E6 (wa g0_6 (wa (b5 n0_6) (wa g1_6 (wa (b5 n1_6) (wa gj_6 (wa (b5 nj_6) (wa gq_6 (wa (b5 nq_6) (wa htl di2))))))))))
   refine yE (fun h25=>?_) fun h25=>?_
   ·have hml:m<d.tests.length:=by omega
    have hgt:d.tests[m]?.getD (0,0,0,0)=d.tests[m]:=by rw [aA hml];rfl
    have Y:=wa Y (wa h25 (wa (aA hml) @cT4.eq_1))
    refine wp (h:=aQ (NQ v hv3 d.tests[m]) wl ?_)
    exact wp (h:=wx hI6 (m+1) ⟨q,wg,wn,wn,wn,wn,wn,wn,(by (simp [go_sem,Y,Qx,hgt])),wn,wj,wj,(by omega),(by (exact Bp _ _ _))⟩)
   ·have hM:m=min d.tests.length 3:=by omega
    exact wv (h:=hQ _ _ (by simp [go_sem,Y,dF,hG,hS,← hM]))
abbrev B4:=UInt8 × UInt8 × UInt8 × UInt8
def cU4 (x:B4):List D:=[.int .u8 (x.1.toNat:Int),.int .u8 (x.2.1.toNat:Int),.int .u8 (x.2.2.1.toNat:Int),.int .u8 (x.2.2.2.toNat:Int)]
structure Dr24 where
 left:Dr21
 keep:UInt64
 nodes:List UInt8
 edges:List B3
 slots:List B3
 plain:Bool
 inj:Bool
 forbid:B4
 order:List UInt8
def Dr24.c (d:Dr24):List D:=[.list (d.left.graph.nodes.map cU),.list (d.left.graph.edges.map cT3),.list (d.left.slots.map cT3),.list (d.left.tests.map cT4),.int .u64 (d.keep.toNat:Int),.list (d.nodes.map cU),.list (d.edges.map cT3),.list (d.slots.map cT3),.bool d.plain,.bool d.inj,
 .int .u8 (d.forbid.1.toNat:Int),.int .u8 (d.forbid.2.1.toNat:Int),.int .u8 (d.forbid.2.2.1.toNat:Int),.int .u8 (d.forbid.2.2.2.toNat:Int),.list (d.order.map cU)]
@[go_sem] theorem Dr24.cl (d:Dr24):D.clL d.c=true:=by simp [Dr24.c,D.clL,D.cl,OH,BR,PC]
@[go_sem] theorem Xz (l:List Dr24):D.clLL (l.map Dr24.c)=true:=c4 _ Dr24.cl l
def mkEd (t:Types)(n:Nat)(x:B3):Edge:=⟨(x.1.toNat:Int).tmod t.edges.length,(x.2.1.toNat:Int).tmod n,(x.2.2.toNat:Int).tmod n⟩
def nN (ns:List Int)(a:Int):Int:=ns[a.toNat]?.getD 0
def Po (t:Types)(base:List Int)(ds:List UInt8)(k:Nat):List Int:=base++(List.range k).map fun i=>rP (g9 t) (ds[i]?.getD 0)
def tX (t:Types)(ns:List Int)(x:B3):List Edge:=if j4 t (mkEd t ns.length x).type (nN ns (mkEd t ns.length x).from_) (nN ns (mkEd t ns.length x).to_)=true then [mkEd t ns.length x] else []
def Mh (t:Types)(ns:List Int)(base:List Edge)(es:List B3)(k:Nat):List Edge:=base++(List.range k).flatMap fun i=>tX t ns (es[i]?.getD (0,0,0))
def iI (t:Types)(g:Graph)(d:Dr24):Graph :=
 ⟨Po t g.nodes d.nodes (if (g9 t).length=0 then 0 else min d.nodes.length 2),
  Mh t (Po t g.nodes d.nodes (if (g9 t).length=0 then 0 else min d.nodes.length 2)) g.edges d.edges (if (Po t g.nodes d.nodes (if (g9 t).length=0 then 0 else min d.nodes.length 2)).length=0∨t.edges.length=0 then 0 else min d.edges.length 2)⟩
theorem RV (t:Types)(base:List Int)(ds:List UInt8)(k:Nat):Po t base ds (k+1)=Po t base ds k++[rP (g9 t) (ds[k]?.getD 0)]:=by simp [Po,bJ]
theorem yR (t:Types)(base:List Int)(ds:List UInt8)(k:Nat):(Po t base ds k).length=base.length+k:=by simp [Po]
theorem xP (t:Types)(ns:List Int)(base:List Edge)(es:List B3)(k:Nat):Mh t ns base es (k+1)=Mh t ns base es k++tX t ns (es[k]?.getD (0,0,0)):=by simp [Mh,bJ]
theorem xQ (t:Types)(ns:List Int)(x:B3):(tX t ns x).length≤1:=by unfold tX;split<;>simp
theorem Ey (t:Types)(ns:List Int)(base:List Edge)(es:List B3):∀ k,(Mh t ns base es k).length≤base.length+k
 | 0=>by simp [Mh]
 | k+1=>by rw [xP,aI];have:=Ey t ns base es k;have:=xQ t ns (es[k]?.getD (0,0,0));omega
theorem SZ {t:Types}{n:Nat}(hn:0<n)(x:B3):(0≤(mkEd t n x).from_∧(mkEd t n x).from_<n)∧0≤(mkEd t n x).to_∧(mkEd t n x).to_<n :=
 ⟨b4 (show 0≤(x.2.1.toNat:Int) by omega) (show (0:Int)<n by omega),b4 (show 0≤(x.2.2.toNat:Int) by omega) (show (0:Int)<n by omega)⟩
theorem Ew (c:Prop)[Decidable c](m:Nat):(if c then 0 else min m 2)≤2:=by split<;>omega
theorem RW {t:Types}{ns:List Int}{base:List Edge}{es:List B3}{k:Nat}(h0:k≠0→0<ns.length)(hb:∀ x∈base,(0≤x.from_∧x.from_<ns.length)∧0≤x.to_∧x.to_<ns.length):Graph.ends ⟨ns,Mh t ns base es k⟩:=by
 intro x hx
 simp only [Mh,aW,bQ,bK] at hx
 rcases hx with hx|⟨i,hi,hx⟩
 ·exact hb x hx
 ·unfold tX at hx
  split at hx
  ·simp only [aV] at hx
   subst hx
   exact SZ (h0 (by omega)) _
  ·cases hx
theorem QK {t:Types}{g:Graph}{d:Dr24}(h:g.ends):(iI t g d).ends∧(iI t g d).nodes.length≤g.nodes.length+2∧(iI t g d).edges.length≤g.edges.length+2:=by
 refine ⟨?_,?_,?_⟩
 ·unfold iI
  refine RW (fun h0=>?_) fun x hx=>?_
  ·rcases Nat.eq_zero_or_pos (Po t g.nodes d.nodes (if (g9 t).length=0 then 0 else min d.nodes.length 2)).length with h1|h1
   ·exact absurd (if_pos (Or.inl h1)) h0
   ·exact h1
  ·have:=h x hx
   rw [yR];omega
 ·simp only [iI,yR];have:=Ew ((g9 t).length=0) d.nodes.length;omega
 ·exact c6 (Ey _ _ _ _ _) (Nat.add_le_add_left (Ew _ _) _)
theorem Li (t:Types)(ht:t.fine)(g:Graph)(hgn:g.nodes.length≤1000)(hge:g.edges.length≤1000)(d:Dr24):Pure Tryz.prog 151 [t.d,g.d,.agg d.c] (iI t g d).d:=by
 have hfN:=ht.ok.fewN
 have hfE:=ht.ok.fewE
 obtain ⟨C,hC⟩:∃ C,g9 t=C:=⟨_,rfl⟩
 refine Tz.pK ⟨fun t=>t==6||t==7||t==12,fun r=>match r with|6=>[(0,14),(1,14)]|11=>[(0,30),(1,30),(3,30),(4,30),(5,30),(7,30),(8,30),(9,30),(11,30),(12,30),(14,30),(15,30),(16,30),(20,30),(21,30),(23,30),(24,30),(25,30)]|_=>[]⟩ Tryz.func151 rfl (fun Q hQ=>?_)
 have Y:=@Dr24.c.eq_1
 refine wv (h:=?_)
 unfold gU;refine sL g (by omega) (by omega) _ _ (fun a b H1 ha hb hab han hbn hga hgb hfr hnn=>?_)
 have h0n:(0:Nat)<H1.next:=by omega
 have ha0:a≠0:=by simp [go_sem] at ha;omega
 have hb0:b≠0:=by simp [go_sem] at hb;omega
 have hg0:=hfr 0 (by simp [go_sem])
 simp [go_sem] at hg0
 have nx:=Ph H1.next
 have fr1:=And.intro (b5 (show a<H1.next by omega)) (And.intro (b5 (show b<H1.next by omega)) (b5 (show 0<H1.next by omega)))
 have di2:=And.intro (cY (show 0≠b by omega)) (And.intro (cY (show 0≠a by omega)) (cY (show b≠a by omega)))
 have Y:=wa Y (wa fr1 (wa di2 (wa hga (wa hgb (wa hg0 nx)))))
 refine wv (h:=aB ((by have hq:=Fg t (by omega);rw [hC] at hq;exact hq)) wl ?_)
 refine wv (h:=bP (fun i e H=>∃ c:Nat,(e 3=.adr t.c∧e 4=.adr g.c∧e 5=.adr d.c∧e 6=.ptr 0 1 0 0∧e 7=.ptr c 1 0 0∧e 8=dLI C∧e 9=dI i)∧(H.get 0=some ⟨37,2,[[.nil,.nil]],false⟩)∧(0<H.next)∧(H.get c=some ⟨37,2,[[.own a (g.nodes.length+i),.own b g.edges.length]],false⟩)∧(c<H.next)∧(H.get a=some ⟨3,1,(Po t g.nodes d.nodes i).map cI,false⟩)∧(a<H.next)∧(H.get b=some ⟨101,3,g.edges.map Edge.c,false⟩)∧(b<H.next)∧(i≤2)∧(i≤d.nodes.length)∧(C.length=0→i=0)∧(a<c∧b<c∧0<c)∧((Po t g.nodes d.nodes i).length=g.nodes.length+i)) (fun i=>2 - i) 0 ⟨H1.next,wg,wn,wn,wn,wn,(by (simp [go_sem,Y,Po])),wn,wn,wn,wi,wi,(by (intro _;rfl)),(by omega),(by (exact yR _ _ _ _))⟩ fun I0 hI0 i e H hi0=>?_)
 obtain ⟨c,E0,g0_0,n0_0,gc_0,nc_0,ga_0,na_0,gb_0,nb_0,hi,hid,hz,hc,hrl⟩:=hi0
 have di3:=And.intro (cY (show 0≠c by omega)) (And.intro (cY (show 0≠b by omega)) (And.intro (cY (show 0≠a by omega)) (And.intro (cY (show c≠b by omega)) (And.intro (cY (show c≠a by omega)) (cY (show b≠a by omega))))))
 have Y:=wa Y (wa @Dr24.c.eq_1 (wa E0 (wa g0_0 (wa (b5 n0_0) (wa gc_0 (wa (b5 nc_0) (wa ga_0 (wa (b5 na_0) (wa gb_0 (wa (b5 nb_0) (wa hrl di3)))))))))))
 refine yE (fun h4=>?_) fun h4=>?_
 ·have hil:i<d.nodes.length:=by omega
  have hC0:0<C.length:=by omega
  have hCn:¬C=[]:=by intro h;rw [h] at hC0;simp at hC0
  have hx1:=iX d.nodes[i]
  have hgd:d.nodes[i]?.getD 0=d.nodes[i]:=by rw [aA hil];rfl
  have tm:=b4 (show 0≤(d.nodes[i].toNat:Int) by omega) (show (0:Int)<C.length by omega)
  obtain ⟨kk,hpk⟩:=xD hC0 d.nodes[i]
  have hne0:(C.length:Int)≠0:=by omega
  have Y:=wa Y (wa h4 (wa (aA hil) (wa (aA kk) (wa hne0 @cU.eq_1))))
  exact wp (h:=wx hI0 (i+1) ⟨c,wg,wn,wn,wn,wn,(by (simp [go_sem,Y,RV,hC,hgd,hpk])),wn,wn,wn,wj,wj,(by omega),(by omega),(by (exact yR _ _ _ _))⟩)
 ·have hI:i=(if C.length=0 then 0 else min d.nodes.length 2):=by
   split
   ·rename_i h;exact hz h
   ·rename_i h
    have hq:¬ (i<d.nodes.length∧i<2):=fun hh=>h (by rw [h4 hh.1 (by omega)];rfl)
    omega
  obtain ⟨ns,hns⟩:∃ ns,Po t g.nodes d.nodes i=ns:=⟨_,rfl⟩
  have hnl:ns.length=g.nodes.length+i:=by rw [← hns];exact hrl
  clear hrl
  have hrl:g.nodes.length+i=ns.length:=hnl.symm
  have hnl1:g.nodes.length+i=ns.length:=hnl.symm
  have hnl2:(g.nodes.length:Int)+(i:Int)=(ns.length:Int):=by omega
  have Y:=wa Y (wa hrl (wa hns (wa hnl1 hnl2)))
  refine wp (h:=bP (fun k e H=>∃ ys:List Edge,(e 3=.adr t.c∧e 4=.adr g.c∧e 5=.adr d.c∧e 6=.ptr 0 1 0 0∧e 7=.ptr c 1 0 0∧e 10=dI ns.length∧e 11=dI k)∧(H.get 0=some ⟨37,2,[[.nil,.nil]],false⟩)∧(0<H.next)∧(H.get c=some ⟨37,2,[[.own a ns.length,.own b ys.length]],false⟩)∧(c<H.next)∧(H.get a=some ⟨3,1,ns.map cI,false⟩)∧(a<H.next)∧(H.get b=some ⟨101,3,ys.map Edge.c,false⟩)∧(b<H.next)∧(k≤2)∧(k≤d.edges.length)∧(ns.length=0∨t.edges.length=0→k=0)∧(a<c∧b<c∧0<c)∧(ys=Mh t ns g.edges d.edges k)∧(ys.length≤g.edges.length+k)) (fun k=>2 - k) 0 ⟨g.edges,wg,wn,wn,wn,wn,wn,wn,wn,wn,wi,wi,(by (intro _;rfl)),(by omega),(by (simp [Mh])),(by omega)⟩ fun I2 hI2 k e H hi2=>?_)
  obtain ⟨ys,E2,g0_2,n0_2,gc_2,nc_2,ga_2,na_2,gb_2,nb_2,hk,hkd,hzz,hc2,hy,hyl⟩:=hi2
  have di4:=And.intro (cY (show 0≠c by omega)) (And.intro (cY (show 0≠b by omega)) (And.intro (cY (show 0≠a by omega)) (And.intro (cY (show c≠b by omega)) (And.intro (cY (show c≠a by omega)) (cY (show b≠a by omega))))))
  have Y:=wa Y (wa E2 (wa g0_2 (wa (b5 n0_2) (wa gc_2 (wa (b5 nc_2) (wa ga_2 (wa (b5 na_2) (wa gb_2 (wa (b5 nb_2) di4)))))))))
  refine yE (fun h9=>?_) fun h9=>?_
  ·have hkl:k<d.edges.length:=by omega
   have hE0:0<t.edges.length:=by omega
   have hn0:0<ns.length:=by omega
   have hee0:¬t.edges=[]:=by intro h;rw [h] at hE0;simp at hE0
   have hnn0:¬ns=[]:=by intro h;rw [h] at hn0;simp at hn0
   obtain ⟨x,hx⟩:∃ x,d.edges[k]=x:=⟨_,rfl⟩
   have hgx:d.edges[k]?.getD (0,0,0)=x:=by rw [aA hkl,← hx];rfl
   have hx1:=iX x.1
   have hx2:=iX x.2.1
   have hx3:=iX x.2.2
   have t1:=b4 (show 0≤(x.1.toNat:Int) by omega) (show (0:Int)<t.edges.length by omega)
   have t2:=b4 (show 0≤(x.2.1.toNat:Int) by omega) (show (0:Int)<ns.length by omega)
   have t3:=b4 (show 0≤(x.2.2.toNat:Int) by omega) (show (0:Int)<ns.length by omega)
   have hf:((x.2.1.toNat:Int).tmod ns.length).toNat<ns.length:=by omega
   have hto:((x.2.2.toNat:Int).tmod ns.length).toNat<ns.length:=by omega
   have hne0:(t.edges.length:Int)≠0:=by omega
   have hne1:(ns.length:Int)≠0:=by omega
   have nx2:=Ph H.next
   have Y:=wa Y (wa h9 (wa (aA hkl) (wa hx (wa hgx (wa @cT3.eq_1 (wa (aA hf) (wa (aA hto) (wa hne0 (wa hne1 nx2)))))))))
   refine wp (h:=aQ (Fn t ht.ok _ _ _) wl ?_)
   refine yE (fun h12=>?_) fun h12=>?_
   ·have hE:tX t ns x=[mkEd t ns.length x]:=by unfold tX nN mkEd;rw [if_pos (by simpa [aA hf,aA hto] using h12)]
    have Y:=wa Y (wa hE @mkEd.eq_1)
    exact wp (h:=wx hI2 (k+1) ⟨(ys++tX t ns (d.edges[k]?.getD (0,0,0))),wg,wn,wn,wn,wn,wn,wn,wn,wn,wj,wj,(by omega),(by omega),(by (rw [xP,← hy])),(by (rw [aI];have:=xQ t ns (d.edges[k]?.getD (0,0,0));omega))⟩)
   ·have hE:tX t ns x=[]:=by unfold tX nN mkEd;rw [if_neg (by simpa [aA hf,aA hto] using h12)]
    have Y:=wa Y hE
    exact wp (h:=wx hI2 (k+1) ⟨(ys++tX t ns (d.edges[k]?.getD (0,0,0))),wg,wn,wn,wn,wn,wn,wn,wn,wn,wj,wj,(by omega),(by omega),(by (rw [xP,← hy])),(by (rw [aI];have:=xQ t ns (d.edges[k]?.getD (0,0,0));omega))⟩)
  ·have hK:k=(if ns.length=0∨t.edges.length=0 then 0 else min d.edges.length 2):=by
    split
    ·rename_i h;exact hzz h
    ·rename_i h
     have hq:¬ (k<d.edges.length∧k<2):=fun hh=>h (.inr (by rw [h9 hh.1 (by omega) (by omega)];rfl))
     omega
   have hfin:iI t g d=⟨ns,ys⟩:=by
    unfold iI
    rw [hC,← hI,hns,← hK,hy]
   exact wv (h:=hQ _ _ (by simp [go_sem,Y,hfin]))
def Nj (vars:Int)(ns:List Int)(la:Nat)(x:B3):Slot:=⟨(x.1.toNat:Int).tmod ns.length,(x.2.1.toNat:Int).tmod la,⟨((x.2.1.toNat:Int) / 16).tmod (vars+1) - 1,(x.2.2.toNat:Int).tmod 3⟩⟩
def HP (s y:Slot):Bool:=y.node==s.node&&y.attr==s.attr
def Nu (t:Types)(vars:Int)(ns:List Int)(out:List Slot)(x:B3):List Slot :=
 if (bI t (nN ns ((x.1.toNat:Int).tmod ns.length))).length=0 then out
 else if out.any (HP (Nj vars ns (bI t (nN ns ((x.1.toNat:Int).tmod ns.length))).length x))=true then out
 else out++[Nj vars ns (bI t (nN ns ((x.1.toNat:Int).tmod ns.length))).length x]
def tB (t:Types)(vars:Int)(ns:List Int)(l:List B3)(k:Nat):List Slot:=(List.range k).foldl (fun out i=>Nu t vars ns out (l[i]?.getD (0,0,0))) []
def mS (t:Types)(ns:List Int)(vars:Int)(l:List B3):List Slot:=tB t vars ns l (if ns.length=0 then 0 else min l.length 3)
theorem Cl (t:Types)(vars:Int)(ns:List Int)(l:List B3)(k:Nat):tB t vars ns l (k+1)=Nu t vars ns (tB t vars ns l k) (l[k]?.getD (0,0,0)):=by simp [tB,bJ]
theorem Rp (t:Types)(vars:Int)(ns:List Int)(out:List Slot)(x:B3):(Nu t vars ns out x).length≤out.length+1:=by
 unfold Nu;split
 ·omega
 ·split
  ·omega
  ·simp
theorem A2 (t:Types)(vars:Int)(ns:List Int)(l:List B3):∀ k,(tB t vars ns l k).length≤k
 | 0=>by simp [tB]
 | k+1=>by rw [Cl];have:=Rp t vars ns (tB t vars ns l k) (l[k]?.getD (0,0,0));have:=A2 t vars ns l k;omega
theorem Lg (t:Types)(ht:t.fine)(g:Graph)(vars:Int)(hv:0≤vars∧vars≤1000)(l:List B3):Pure Tryz.prog 152 [t.d,g.d,dI vars,.list (l.map cT3)] (.list ((mS t g.nodes vars l).map Slot.c)):=by
 refine Tz.pK ⟨fun t=>t==9||t==14,fun r=>match r with|8=>[(3,30),(4,30),(5,30),(8,30),(12,30),(13,30),(14,30),(23,30),(24,30),(25,30)]|_=>[]⟩ Tryz.func152 rfl (fun Q hQ=>?_)
 try simp [go_sem,seval]
 obtain ⟨I0,hI0⟩:∃ I0:Nat→cX→AHeap→Prop,∀ (i:Nat) (e:cX) (H:AHeap),I0 i e H↔(∃ out:List Slot,(e 4=.adr t.c)∧(e 5=.adr g.c)∧(e 2=dI vars)∧(e 3=.list (l.map cT3))∧(e 9=.own 0 out.length)∧(e 10=dI i)∧(H.get 0=some ⟨99,4,out.map Slot.c,false⟩)∧(0<H.next)∧(i≤3)∧(i≤l.length)∧(g.nodes.length=0→i=0)∧(out=tB t vars g.nodes l i)):=⟨fun i e H=>_,fun _ _ _=>Iff.rfl⟩
 refine k6 I0 (fun i=>3 - i) (0) ((hI0 _ _ _).2 ⟨([]),?_,?_,?_,?_,?_,?_,?_,?_,(by first|assumption|omega|(simp [go_sem];done)|(simp_all;done)),(by first|assumption|omega|(simp [go_sem];done)|(simp_all;done)),(by (intro _;rfl)),(by rfl)⟩) ?_
 iterate 8 (first|omega|(simp [go_sem,seval]<;>omega))
 intro i e H hi0
 obtain ⟨out,q4_0,q5_0,q2_0,q3_0,q9_0,q10_0,g0_0,n0_0,hi,hil,hz,ho⟩:=(hI0 _ _ _).1 hi0
 have x0:=b5 n0_0
 have F0:=And.intro q4_0 (And.intro q5_0 (And.intro q2_0 (And.intro q3_0 (And.intro q9_0 (And.intro q10_0 (And.intro g0_0 x0))))))
 try simp [go_sem,seval,F0]
 repeat first|intro _|refine ⟨dQ,?_⟩
 refine aK (fun h3=>?_) (fun h3=>?_)
 ·try simp [go_sem] at h3
  have hkl:i<l.length:=by omega
  have hn0:0<g.nodes.length:=by omega
  have hnn0:¬g.nodes=[]:=by intro h;rw [h] at hn0;simp at hn0
  obtain ⟨x,hx⟩:∃ x,l[i]=x:=⟨_,rfl⟩
  have hgx:l[i]?.getD (0,0,0)=x:=by rw [aA hkl,← hx];rfl
  have hx1:=iX x.1
  have hx2:=iX x.2.1
  have hx3:=iX x.2.2
  have t1:=b4 (show 0≤(x.1.toNat:Int) by omega) (show (0:Int)<g.nodes.length by omega)
  have hf:((x.1.toNat:Int).tmod g.nodes.length).toNat<g.nodes.length:=by omega
  have hnn:nN g.nodes ((x.1.toNat:Int).tmod g.nodes.length)=g.nodes[((x.1.toNat:Int).tmod g.nodes.length).toNat]:=by unfold nN;rw [aA hf];rfl
  have hne0:(g.nodes.length:Int)≠0:=by omega
  have hlen:=A2 t vars g.nodes l i
  rw [← ho] at hlen
  have hS:tB t vars g.nodes l (i+1)=Nu t vars g.nodes out x:=by rw [Cl,hgx,← ho]
  unfold Nu at hS
  rw [hnn] at hS
  have nx:=Ph H.next
  try simp [go_sem,seval,F0,h3,aA hkl,hx,cT3,aA hf,hne0,nx]
  repeat first|intro _|refine ⟨dQ,?_⟩
  refine aQ (rM t ht.ok _) ((by first|rfl|(simp [go_sem,← List.map_take,← List.map_drop,F0,h3,aA hkl,hx,cT3,aA hf,hne0,nx];done))) ?_
  try simp [go_sem,seval,F0,h3,aA hkl,hx,cT3,aA hf,hne0,nx]
  repeat first|intro _|refine ⟨dQ,?_⟩
  refine aK (fun h7=>?_) (fun h7=>?_)
  ·try simp [go_sem] at h7
   rw [if_pos (by rw [h7];rfl)] at hS
   obtain ⟨out',hout⟩:∃ y:List Slot,y=out:=⟨_,rfl⟩
   have ho':out'=tB t vars g.nodes l (i+1):=by rw [hS,hout]
   try simp [go_sem,seval,F0,h3,aA hkl,hx,cT3,aA hf,hne0,nx,hout]
   repeat first|intro _|refine ⟨dQ,?_⟩
   refine cT (i+1) (by omega) ((hI0 _ _ _).2 ⟨(out'),?_,?_,?_,?_,?_,?_,?_,?_,(by first|assumption|omega|(simp [go_sem,F0,h3,aA hkl,hx,cT3,aA hf,hne0,nx,hout,h7];done)|(simp_all<;>omega)),(by first|assumption|omega|(simp [go_sem,F0,h3,aA hkl,hx,cT3,aA hf,hne0,nx,hout,h7];done)|(simp_all<;>omega)),(by omega),(by exact ho')⟩)<;>first|omega|(simp [go_sem,seval,F0,h3,aA hkl,hx,cT3,aA hf,hne0,nx,hout]<;>omega)
  ·try simp [go_sem] at h7
   rw [if_neg (fun h=>h7 (List.length_eq_zero_iff.1 h))] at hS
   obtain ⟨la,hla⟩:∃ la,(bI t g.nodes[((x.1.toNat:Int).tmod g.nodes.length).toNat]).length=la:=⟨_,rfl⟩
   rw [hla] at hS
   have hla0:0<la:=by rw [← hla];exact iQ.2 h7
   have t2:=b4 (show 0≤(x.2.1.toNat:Int) by omega) (show (0:Int)<la by omega)
   have t3:=b4 (show 0≤(x.2.1.toNat:Int) / 16 by omega) (show 0<vars+1 by omega)
   have t4:=b4 (show 0≤(x.2.2.toNat:Int) by omega) (show (0:Int)<3 by omega)
   have hu:=Ob (show 0≤(x.2.1.toNat:Int) / 16 by omega) (by omega)
   have hne1:(la:Int)≠0:=by omega
   have hne2:vars+1≠0:=by omega
   obtain ⟨s,hs⟩:∃ s,Nj vars g.nodes la x=s:=⟨_,rfl⟩
   have hsn:s.node=(x.1.toNat:Int).tmod g.nodes.length:=by rw [← hs];rfl
   have hsa:s.attr=(x.2.1.toNat:Int).tmod la:=by rw [← hs];rfl
   have hsv:s.term.var=((x.2.1.toNat:Int) / 16).tmod (vars+1) - 1:=by rw [← hs];rfl
   have hsd:s.term.add=(x.2.2.toNat:Int).tmod 3:=by rw [← hs];rfl
   rw [hs] at hS
   try simp [go_sem,seval,F0,h3,aA hkl,hx,cT3,aA hf,hne0,nx,h7,hla,hne1,hne2,hsn,hsa,hsv,hsd]
   repeat first|intro _|refine ⟨dQ,?_⟩
   obtain ⟨I2,hI2⟩:∃ I2:Nat→cX→AHeap→Prop,∀ (k:Nat) (e:cX) (H:AHeap),I2 k e H↔(∃ b14:Nat,(e 4=.adr t.c)∧(e 5=.adr g.c)∧(e 2=dI vars)∧(e 3=.list (l.map cT3))∧(e 9=.own 0 out.length)∧(e 10=dI i)∧(e 14=.ptr b14 1 0 0)∧(e 15=.bool ((out.take k).any (HP s)))∧(e 16=dI k)∧(H.get 0=some ⟨99,4,out.map Slot.c,false⟩)∧(0<H.next)∧(H.get b14=some ⟨99,4,[[dI s.node,dI s.attr,dI s.term.var,dI s.term.add]],false⟩)∧(b14<H.next)∧(k≤out.length)∧(0<b14)):=⟨fun k e H=>_,fun _ _ _=>Iff.rfl⟩
   refine k6 I2 (fun k=>out.length - k) (0) ((hI2 _ _ _).2 ⟨(H.next+11+12+30),?_,?_,?_,?_,?_,?_,?_,?_,?_,?_,?_,(by (simp [go_sem,F0,h3,aA hkl,hx,cT3,aA hf,hne0,nx,h7,hla,hne1,hne2,hsn,hsa,hsv,hsd,dI])),?_,(by first|assumption|omega|(simp [go_sem,F0,h3,aA hkl,hx,cT3,aA hf,hne0,nx,h7,hla,hne1,hne2,hsn,hsa,hsv,hsd];done)|(simp_all;done)),(by omega)⟩) ?_
   iterate 12 (first|omega|(simp [go_sem,seval,F0,h3,aA hkl,hx,cT3,aA hf,hne0,nx,h7,hla,hne1,hne2,hsn,hsa,hsv,hsd]<;>omega))
   intro k e H hi2
   obtain ⟨b14,q4_2,q5_2,q2_2,q3_2,q9_2,q10_2,q14_2,q15_2,q16_2,g0_2,n0_2,gb14_2,nb14_2,hk,hb14⟩:=(hI2 _ _ _).1 hi2
   have x0:=b5 n0_2
   have xb14:=b5 nb14_2
   have F2:=And.intro q4_2 (And.intro q5_2 (And.intro q2_2 (And.intro q3_2 (And.intro q9_2 (And.intro q10_2 (And.intro q14_2 (And.intro q16_2 (And.intro g0_2 (And.intro gb14_2 (And.intro x0 xb14))))))))))
   have di1:=cY (show b14≠0 by omega)
   try simp [go_sem,seval,h3,aA hkl,hx,cT3,aA hf,hne0,nx,h7,hla,hne1,hne2,hsn,hsa,hsv,hsd,F2,q15_2,di1]
   repeat first|intro _|refine ⟨dQ,?_⟩
   refine aK (fun h11=>?_) (fun h11=>?_)
   ·try simp [go_sem] at h11
    have hts:(out.take (k+1)).any (HP s)=((out.take k).any (HP s)||(decide (out[k].node=(x.1.toNat:Int).tmod g.nodes.length)&&out[k].attr==(x.2.1.toNat:Int).tmod la)):=by
     rw [aF h11,s7,List.any_cons,List.any_nil,mM,← hsn,← hsa];rfl
    obtain ⟨bb,hbb⟩:∃ bb,(out.take k).any (HP s)=bb:=⟨_,rfl⟩
    rw [hbb] at q15_2 hts
    try simp [go_sem,seval,h3,aA hkl,hx,cT3,aA hf,hne0,nx,h7,hla,hne1,hne2,hsn,hsa,hsv,hsd,F2,q15_2,di1,h11,aA h11,hts]
    repeat first|intro _|refine ⟨dQ,?_⟩
    refine cT (k+1) (by omega) ((hI2 _ _ _).2 ⟨(b14),?_,?_,?_,?_,?_,?_,?_,?_,?_,?_,?_,(by (simp [go_sem,h3,aA hkl,hx,cT3,aA hf,hne0,nx,h7,hla,hne1,hne2,hsn,hsa,hsv,hsd,F2,q15_2,di1,h11,aA h11,hts])),?_,(by first|assumption|omega|(simp [go_sem,h3,aA hkl,hx,cT3,aA hf,hne0,nx,h7,hla,hne1,hne2,hsn,hsa,hsv,hsd,F2,q15_2,di1,h11,aA h11,hts];done)|(simp_all<;>omega)),(by omega)⟩)<;>first|omega|(simp [go_sem,seval,h3,aA hkl,hx,cT3,aA hf,hne0,nx,h7,hla,hne1,hne2,hsn,hsa,hsv,hsd,F2,q15_2,di1,h11,aA h11,hts]<;>omega)
   ·try simp [go_sem] at h11
    have hK:out.take k=out:=aP (by omega)
    rw [hK] at q15_2
    try simp [go_sem,seval,h3,aA hkl,hx,cT3,aA hf,hne0,nx,h7,hla,hne1,hne2,hsn,hsa,hsv,hsd,F2,q15_2,di1,hK]
    repeat first|intro _|refine ⟨dQ,?_⟩
    refine aK (fun h14=>?_) (fun h14=>?_)
    ·try simp [go_sem] at h14
     rw [if_neg (by simpa using h14)] at hS
     obtain ⟨out',hout⟩:∃ y:List Slot,y=out++[s]:=⟨_,rfl⟩
     have ho':out'=tB t vars g.nodes l (i+1):=by rw [hS,hout]
     try simp [go_sem,seval,h3,aA hkl,hx,cT3,aA hf,hne0,nx,h7,hla,hne1,hne2,hsn,hsa,hsv,hsd,F2,q15_2,di1,hK,hout]
     repeat first|intro _|refine ⟨dQ,?_⟩
     refine cT (i+1) (by omega) ((hI0 _ _ _).2 ⟨(out'),?_,?_,?_,?_,?_,?_,?_,?_,(by first|assumption|omega|(simp [go_sem,h3,aA hkl,hx,cT3,aA hf,hne0,nx,h7,hla,hne1,hne2,hsn,hsa,hsv,hsd,F2,q15_2,di1,hK,hout,h11,h14];done)|(simp_all<;>omega)),(by first|assumption|omega|(simp [go_sem,h3,aA hkl,hx,cT3,aA hf,hne0,nx,h7,hla,hne1,hne2,hsn,hsa,hsv,hsd,F2,q15_2,di1,hK,hout,h11,h14];done)|(simp_all<;>omega)),(by omega),(by exact ho')⟩)<;>first|omega|(simp [go_sem,seval,h3,aA hkl,hx,cT3,aA hf,hne0,nx,h7,hla,hne1,hne2,hsn,hsa,hsv,hsd,F2,q15_2,di1,hK,hout]<;>omega)
    ·try simp [go_sem] at h14
     rw [if_pos (by simpa using h14)] at hS
     obtain ⟨out',hout⟩:∃ y:List Slot,y=out:=⟨_,rfl⟩
     have ho':out'=tB t vars g.nodes l (i+1):=by rw [hS,hout]
     try simp [go_sem,seval,h3,aA hkl,hx,cT3,aA hf,hne0,nx,h7,hla,hne1,hne2,hsn,hsa,hsv,hsd,F2,q15_2,di1,hK,hout]
     repeat first|intro _|refine ⟨dQ,?_⟩
     refine cT (i+1) (by omega) ((hI0 _ _ _).2 ⟨(out'),?_,?_,?_,?_,?_,?_,?_,?_,(by first|assumption|omega|(simp [go_sem,h3,aA hkl,hx,cT3,aA hf,hne0,nx,h7,hla,hne1,hne2,hsn,hsa,hsv,hsd,F2,q15_2,di1,hK,hout,h11,h14];done)|(simp_all<;>omega)),(by first|assumption|omega|(simp [go_sem,h3,aA hkl,hx,cT3,aA hf,hne0,nx,h7,hla,hne1,hne2,hsn,hsa,hsv,hsd,F2,q15_2,di1,hK,hout,h11,h14];done)|(simp_all<;>omega)),(by omega),(by exact ho')⟩)<;>first|omega|(simp [go_sem,seval,h3,aA hkl,hx,cT3,aA hf,hne0,nx,h7,hla,hne1,hne2,hsn,hsa,hsv,hsd,F2,q15_2,di1,hK,hout]<;>omega)
 ·try simp [go_sem] at h3
  have hI:i=(if g.nodes.length=0 then 0 else min l.length 3):=by
   split
   ·rename_i h;exact hz h
   ·rename_i h
    have hq:¬ (i<l.length∧i<3):=fun hh=>h (by rw [h3 hh.1 (by omega)];rfl)
    omega
  have hfin:mS t g.nodes vars l=out:=by unfold mS;rw [← hI,ho]
  try simp [go_sem,seval,F0]
  exact hQ _ _ (by first|(left;(simp [go_sem,F0,hfin]);done)|(right;(simp [go_sem,F0,hfin]);done))
theorem eZ (l:List Int):d7 (l.map cI)=l.map cI:=jN fun c hc=>by
 rw [aT] at hc;obtain ⟨x,_,rfl⟩:=hc;rfl
theorem qD (l:List Edge):d7 (l.map Edge.c)=l.map Edge.c:=jN fun c hc=>by
 rw [aT] at hc;obtain ⟨x,_,rfl⟩:=hc;rfl
def trueC:Cond:=.mk 1 [] ⟨[],[]⟩ ⟨⟨[],[]⟩,[],0,[]⟩
def Bd (r:Rule):Rule:=⟨r.name,⟨r.left.graph,[],0,[]⟩,⟨r.right.graph,[],0,[]⟩,r.keep,r.into,r.inj,trueC⟩
theorem Lh (r:Rule)(h1:r.left.graph.nodes.length≤1000∧r.left.graph.edges.length≤1000)(h2:r.right.graph.nodes.length≤1000∧r.right.graph.edges.length≤1000)(h3:r.keep.nodes.length≤1000∧r.keep.edges.length≤1000)(h4:r.into.nodes.length≤1000∧r.into.edges.length≤1000):Pure Tryz.prog 154 [r.d] (Bd r).d:=by
 refine sM (by first|rfl|(simp [go_sem];done)) (fun Q hQ=>(aG (cfg:=⟨fun t=>t==2||t==15||t==20||t==26||t==31,fun r=>match r with|1=>[(0,12),(1,12),(2,12),(3,12),(4,12),(5,12),(7,12),(8,12),(9,12),(10,12),(12,13),(12,14),(12,15),(0,16),(1,16),(0,17),(1,17),(2,17),(3,17),(4,17),(5,17),(7,17),(8,17),(9,17),(10,17),(12,17),(13,17),(14,17),(15,17),(16,17),(12,18),(16,18),(17,18),(12,19),(16,19),(17,19),(12,20),(16,20),(17,20),(0,21),(1,21),(0,23),(1,23),(2,23),(3,23),(4,23),(5,23),(7,23),(8,23),(9,23),(10,23),(12,23),(13,23),(14,23),(15,23),(16,23),(17,23),(18,23),(19,23),(20,23),(21,23),(12,24),(16,24),(17,24),(21,24),(23,24),(12,25),(16,25),(17,25),(21,25),(23,25),(12,26),(16,26),(17,26),(21,26),(23,26),(0,27),(1,27),(0,28),(1,28),(2,28),(3,28),(4,28),(5,28),(7,28),(8,28),(9,28),(10,28),(12,28),(13,28),(14,28),(15,28),(16,28),(17,28),(18,28),(19,28),(20,28),(21,28),(23,28),(24,28),(25,28),(26,28),(27,28),(12,29),(16,29),(17,29),(21,29),(23,29),(27,29),(28,29),(12,30),(16,30),(17,30),(21,30),(23,30),(27,30),(28,30),(12,31),(16,31),(17,31),(21,31),(23,31),(27,31),(28,31),(0,32),(1,32),(12,34),(16,34),(17,34),(21,34),(23,34),(27,34),(28,34),(32,34),(12,35),(16,35),(17,35),(21,35),(23,35),(27,35),(28,35),(32,35)]|_=>[]⟩) Tz.mixed Tryz.func154 rfl rfl (aE rfl) (by kernel_rfl) ?_))
 have Y:=trivial
 refine wo (h:=aQ (zU r.left.graph (by omega) (by omega)) wl ?_)
 refine wo (h:=aQ (zU r.right.graph (by omega) (by omega)) wl ?_)
 refine wo (h:=?_)
 exact hQ _ _ (by simp [go_sem,eZ,qD,Bd,trueC,Rule.d,Rule.c,Cond.kind,Cond.kids,Cond.map,Cond.pattern])
theorem Bj (a b:List (List D)):d7 (a++b)=d7 a++d7 b:=by simp [tN]
def forbC (p:Pattern)(g:Graph):Cond:=.mk 2 [.mk 5 [trueC] ⟨cF p.graph.nodes.length,cF p.graph.edges.length⟩ ⟨g,[],p.vars,[]⟩] ⟨[],[]⟩ ⟨⟨[],[]⟩,[],0,[]⟩
def Aw (t:Types)(p:Pattern)(x:B4):Cond :=
 if (x.1.toNat:Int).tmod 4=1 then forbC p ⟨p.graph.nodes++[(x.2.1.toNat:Int).tmod t.nodes.length],p.graph.edges⟩
 else if (x.1.toNat:Int).tmod 4=2 then
  if p.graph.nodes.length=0∨t.edges.length=0 then trueC
  else forbC p ⟨p.graph.nodes,p.graph.edges++[⟨(x.2.1.toNat:Int).tmod t.edges.length,(x.2.2.1.toNat:Int).tmod p.graph.nodes.length,(x.2.2.2.toNat:Int).tmod p.graph.nodes.length⟩]⟩
 else trueC
theorem Jz (t:Types)(ht:t.fine)(p:Pattern)(h1:p.graph.nodes.length≤1000)(h2:p.graph.edges.length≤1000)(x:B4):Pure Tryz.prog 153 [t.d,p.d,.agg (cU4 x)] (.agg (Aw t p x).c):=by
 have hfN:=ht.ok.fewN
 have hfE:=ht.ok.fewE
 have hne:=ht.valid.ne
 have hx1:=iX x.1
 have hx2:=iX x.2.1
 have hx3:=iX x.2.2.1
 have hx4:=iX x.2.2.2
 refine sM (by first|rfl|(simp [go_sem];done)) (fun Q hQ=>(aG (cfg:=⟨fun t=>t==6||t==7||t==9||t==10,fun r=>match r with|6=>[(0,9),(1,9)]|10=>[(0,20),(1,20)]|_=>[]⟩) Tz.mixed Tryz.func153 rfl rfl (aE rfl) (by kernel_rfl) ?_))
 have Y:=@cU4.eq_1
 refine wv (h:=?_)
 unfold gU;refine sL p.graph (by omega) (by omega) _ _ (fun a b H1 ha hb hab han hbn hga hgb hfr hnn=>?_)
 have h0n:(0:Nat)<H1.next:=by omega
 have ha0:a≠0:=by simp [go_sem] at ha;omega
 have hb0:b≠0:=by simp [go_sem] at hb;omega
 have hg0:=hfr 0 (by simp [go_sem])
 simp [go_sem] at hg0
 have nx:=Ph H1.next
 have fr1:=And.intro (b5 (show a<H1.next by omega)) (And.intro (b5 (show b<H1.next by omega)) (b5 (show 0<H1.next by omega)))
 have di2:=And.intro (cY (show 0≠b by omega)) (And.intro (cY (show 0≠a by omega)) (cY (show b≠a by omega)))
 have Y:=wa Y (wa fr1 (wa di2 (wa hga (wa hgb (wa hg0 nx)))))
 refine yE (fun h5=>?_) fun h5=>?_
 ·have t1:=b4 (show 0≤(x.2.1.toNat:Int) by omega) (show (0:Int)<t.nodes.length by omega)
  have hnn0:¬t.nodes=[]:=by intro h;rw [h] at hne;simp at hne
  have hne0:(t.nodes.length:Int)≠0:=by omega
  have hF:Aw t p x=forbC p ⟨p.graph.nodes++[(x.2.1.toNat:Int).tmod t.nodes.length],p.graph.edges⟩:=by unfold Aw;rw [if_pos h5]
  have Y:=wa Y (wa hne0 (wa hF (wa @forbC.eq_1 (wa @trueC.eq_1 (wa @Cond.c_eq (wa @Cond.kind.eq_1 (wa @Cond.kids.eq_1 (wa @Cond.map.eq_1 @Cond.pattern.eq_1))))))))
  refine wp (h:=aB (w9 p.graph (by omega) (by omega)) wl ?_)
  refine wp (h:=?_)
  exact hQ _ _ (by simp [go_sem,Y,eZ,qD,Bj])
 ·refine dO (fun h7=>?_) fun h7=>?_
  ·refine yE (fun h8=>?_) fun h8=>?_
   ·have hF:Aw t p x=trueC:=by unfold Aw;rw [if_neg h5,if_pos h7,if_pos (h8.imp (fun h=>by rw [h];rfl) (fun h=>by rw [h];rfl))]
    have Y:=wa Y (wa hF (wa @trueC.eq_1 (wa @Cond.c_eq (wa @Cond.kind.eq_1 (wa @Cond.kids.eq_1 (wa @Cond.map.eq_1 @Cond.pattern.eq_1))))))
    refine wv (h:=?_)
    exact hQ _ _ (by simp [go_sem,cU4,fr1,di2,hga,hgb,hg0,nx,hF,trueC,Cond.c_eq,Cond.kind,Cond.kids,Cond.map,Cond.pattern,h5,h7,h8]<;>first|omega|(rw [aS];simp<;>omega)|(simp_all<;>omega))
   ·have hn0:0<p.graph.nodes.length∧0<t.edges.length:=by constructor<;>(apply iQ.2;intro h;simp [h] at h8)
    have hnn0:¬p.graph.nodes=[]:=iQ.1 hn0.1
    have hee0:¬t.edges=[]:=iQ.1 hn0.2
    have t1:=b4 (show 0≤(x.2.1.toNat:Int) by omega) (show (0:Int)<t.edges.length by omega)
    have t2:=b4 (show 0≤(x.2.2.1.toNat:Int) by omega) (show (0:Int)<p.graph.nodes.length by omega)
    have t3:=b4 (show 0≤(x.2.2.2.toNat:Int) by omega) (show (0:Int)<p.graph.nodes.length by omega)
    have hne0:(t.edges.length:Int)≠0:=by omega
    have hne1:(p.graph.nodes.length:Int)≠0:=by omega
    have hF:Aw t p x=forbC p ⟨p.graph.nodes,p.graph.edges++[⟨(x.2.1.toNat:Int).tmod t.edges.length,(x.2.2.1.toNat:Int).tmod p.graph.nodes.length,(x.2.2.2.toNat:Int).tmod p.graph.nodes.length⟩]⟩:=by unfold Aw;rw [if_neg h5,if_pos h7,if_neg (by omega)]
    have Y:=wa Y (wa hne0 (wa hne1 (wa hF (wa @forbC.eq_1 (wa @trueC.eq_1 (wa @Cond.c_eq (wa @Cond.kind.eq_1 (wa @Cond.kids.eq_1 (wa @Cond.map.eq_1 @Cond.pattern.eq_1)))))))))
    refine wp (h:=aB (w9 p.graph (by omega) (by omega)) wl ?_)
    refine wp (h:=?_)
    exact hQ _ _ (by simp [go_sem,Y,eZ,qD,Bj,Edge.c])
  ·have hF:Aw t p x=trueC:=by unfold Aw;rw [if_neg h5,if_neg h7]
   have Y:=wa Y (wa hF (wa @trueC.eq_1 (wa @Cond.c_eq (wa @Cond.kind.eq_1 (wa @Cond.kids.eq_1 (wa @Cond.map.eq_1 @Cond.pattern.eq_1))))))
   refine wv (h:=?_)
   exact hQ _ _ (by simp [go_sem,cU4,fr1,di2,hga,hgb,hg0,nx,hF,trueC,Cond.c_eq,Cond.kind,Cond.kids,Cond.map,Cond.pattern,h5,h7]<;>first|omega|(rw [aS];simp<;>omega)|(simp_all<;>omega))
theorem In (b:List Bool):(vT b).length≤b.length:=by
 unfold vT Rs;rw [bA];exact c6 (e9 _ _) (by simp)
theorem MN (k:UInt64)(off n:Nat):(sS k off n).length=n:=by simp [sS]
theorem CF (g:Graph)(k:UInt64):(oV g k).nodes.length≤g.nodes.length∧(oV g k).edges.length≤g.edges.length:=by
 refine ⟨c6 (In _) (by rw [qM,MN];exact aY _),c6 (In _) (by rw [MN];exact aY _)⟩
theorem vB (g:Graph)(p:Part):(bS g p).nodes.length≤p.nodes.length∧(bS g p).edges.length≤p.edges.length:=by
 unfold bS;split<;>simp
def mY (t:Types)(d:Dr24):Part:=oV (dF t d.left).graph d.keep
def lN (t:Types)(d:Dr24):Graph:=bS (dF t d.left).graph (mY t d)
def kL (t:Types)(d:Dr24):Graph:=iI t (lN t d) d
def mB (t:Types)(d:Dr24):Graph:=wH (kL t d) (kG (kL t d).nodes.length d.order) (kG (kL t d).edges.length d.order)
def p9 (t:Types)(d:Dr24):Rule :=
 ⟨⟨#[114]⟩,dF t d.left,⟨mB t d,mS t (mB t d).nodes (dF t d.left).vars d.slots,(dF t d.left).vars,[]⟩,mY t d,
  ⟨(kG (kL t d).nodes.length d.order).take (lN t d).nodes.length,(kG (kL t d).edges.length d.order).take (lN t d).edges.length⟩,d.inj,Aw t (dF t d.left) d.forbid⟩
def lV (t:Types)(d:Dr24):Rule:=if d.plain=true then Bd (p9 t d) else p9 t d
theorem tS (t:Types)(d:Dr21):(dF t d).graph.ends∧(dF t d).graph.nodes.length≤8∧(dF t d).graph.edges.length≤10∧(0≤(dF t d).vars∧(dF t d).vars≤3):=by
 have h1:=rZ t d.graph
 have h2:=qJ t d.graph
 refine ⟨h1,h2.1,h2.2,?_⟩
 show 0≤(iZ t d).2∧(iZ t d).2≤3
 unfold iZ
 split
 ·exact ⟨by simp,by simp⟩
 ·have:=yP (IY t d) d.slots (min d.slots.length 4);omega
theorem Rt (g:Graph)(p q:List Int):(wH g p q).nodes.length≤g.nodes.length∧(wH g p q).edges.length≤g.edges.length:=by
 unfold wH;split
 ·simp only [tF,tG];exact ⟨aY _,aY _⟩
 ·simp
theorem TO (l:List Int)(z:List D)(hz:z.length=1):((l.map cI).head?.getD z).length=1:=by cases l<;>simp [cI,hz]
theorem Mg (t:Types)(g:Graph)(d:Dr24):g.nodes.length≤(iI t g d).nodes.length∧g.edges.length≤(iI t g d).edges.length:=by
 refine ⟨by simp only [iI,yR];omega,by simp only [iI,Mh,aI];omega⟩
theorem QJ (t:Types)(g:Graph)(d:Dr24):(iI t g d).nodes.length≤g.nodes.length+2∧(iI t g d).edges.length≤g.edges.length+2:=by
 refine ⟨?_,?_⟩
 ·simp only [iI,yR];have:=Ew ((g9 t).length=0) d.nodes.length;omega
 ·exact c6 (Ey _ _ _ _ _) (Nat.add_le_add_left (Ew _ _) _)
theorem Sq {P:Program}{f:FuncId}{args args':List D}{r:D}(ha:args.map RI=args')(h:Pure P f args' r):Pure P f args r:=by
 subst ha
 refine ⟨h.1,fun M w vals hM hv=>h.2 M w vals hM ⟨by simpa using hv.len,fun j u d hu hd=>?_⟩⟩
 rw [aM,bF] at hd
 obtain ⟨y,hy,rfl⟩:=hd
 exact JJ (hv.rep j u y hu hy)
theorem NF (t:Types)(ht:t.fine)(d:Dr24):Pure Tryz.prog 69 [t.d,.agg d.c] (lV t d).d:=by
 have hL4:=tS t d.left
 have hKl:=CF (dF t d.left).graph d.keep
 have hGl:=vB (dF t d.left).graph (oV (dF t d.left).graph d.keep)
 have hRr:lV t d=if d.plain=true then Bd (p9 t d) else p9 t d:=rfl
 unfold p9 mB kL lN mY at hRr
 obtain ⟨L,hL⟩:∃ L,dF t d.left=L:=⟨_,rfl⟩
 rw [hL] at hL4 hKl hGl hRr
 obtain ⟨K,hK⟩:∃ K,oV L.graph d.keep=K:=⟨_,rfl⟩
 rw [hK] at hKl hGl hRr
 obtain ⟨kg,hkg⟩:∃ g,bS L.graph K=g:=⟨_,rfl⟩
 rw [hkg] at hGl hRr
 have hgr:=QJ t kg d
 have hge:=Mg t kg d
 obtain ⟨gr,hg⟩:∃ g,iI t kg d=g:=⟨_,rfl⟩
 rw [hg] at hgr hge hRr
 have hpp:=uP gr.nodes.length d.order
 have hqq:=uP gr.edges.length d.order
 obtain ⟨p,hp⟩:∃ p,kG gr.nodes.length d.order=p:=⟨_,rfl⟩
 obtain ⟨q,hq⟩:∃ q,kG gr.edges.length d.order=q:=⟨_,rfl⟩
 rw [hp] at hpp hRr
 rw [hq] at hqq hRr
 have hrl:=Rt gr p q
 obtain ⟨rg,hrg⟩:∃ g,wH gr p q=g:=⟨_,rfl⟩
 rw [hrg] at hrl hRr
 obtain ⟨sl,hsl⟩:∃ s,mS t rg.nodes L.vars d.slots=s:=⟨_,rfl⟩
 obtain ⟨fc,hfc⟩:∃ c,Aw t L d.forbid=c:=⟨_,rfl⟩
 rw [hsl,hfc] at hRr
 have hpl:=hpp.1
 have hql:=hqq.1
 have hd1:=TO p
 have hd2:=TO q
 have hce:=Cond.c_eq fc
 refine Tz.pK ⟨fun t=>t==4||t==5||t==6||t==7||t==8||t==10,fun r=>match r with|2=>[(0,9),(1,9),(2,9),(3,9),(4,9),(5,9),(6,9),(7,9)]|_=>[]⟩ Tryz.func69 rfl (fun Q hQ=>?_)
 have Y:=wa @Dr24.c.eq_1 (wa hd1 (wa hd2 (wa hpl (wa hql hce))))
 refine wv (h:=aB ((by have hz:=NK t ht d.left;rw [hL] at hz;exact hz)) wl ?_)
 refine wv (h:=aQ ((by have hz:=Fk L.graph (by omega) (by omega) hL4.1 d.keep;rw [hK] at hz;exact hz)) wl ?_)
 refine wv (h:=aB ((by have hz:=Hm L.graph K (by omega) (by omega);rw [hkg] at hz;exact hz)) wl ?_)
 refine wv (h:=aB ((by have hz:=Li t ht kg (by omega) (by omega) d;rw [hg] at hz;exact hz)) wl ?_)
 refine wp (h:=aQ ((by have hz:=zT gr.nodes.length (by omega) d.order;rw [hp] at hz;exact hz)) wl ?_)
 refine wp (h:=aQ ((by have hz:=zT gr.edges.length (by omega) d.order;rw [hq] at hz;exact hz)) wl ?_)
 refine wp (h:=aB ((by have hz:=Hn gr (by omega) (by omega) p q hpp hqq;rw [hrg] at hz;exact hz)) wl ?_)
 refine wp (h:=aB ((by have hz:=Lg t ht rg L.vars (by omega) d.slots;rw [hsl] at hz;exact hz)) wl ?_)
 refine wp (h:=aB ((by have hz:=Jz t ht L (by omega) (by omega) d.forbid;rw [hfc] at hz;exact hz)) wl ?_)
 refine yE (fun h11=>?_) fun h11=>?_
 ·refine wv (h:=aB (Sq (by simp [go_sem,Rule.d,Rule.c,dLI]) (Lh ⟨⟨#[114]⟩,L,⟨rg,sl,L.vars,[]⟩,K,⟨p.take kg.nodes.length,q.take kg.edges.length⟩,d.inj,fc⟩ (by simp only;omega) (by simp only;omega) (by simp only;omega) (by simp only [bH];omega))) wl ?_)
  have Y:=wa Y h11
  exact wv (h:=hQ _ _ wy)
 ·have Y:=wa Y h11
  exact wv (h:=hQ _ _ wy)
end Go.Abs
end
