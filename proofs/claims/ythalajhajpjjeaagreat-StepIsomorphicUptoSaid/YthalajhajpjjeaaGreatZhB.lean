/- The abstraction layer, part E: operations that write or make -/
import Derived.Test.YthalajhajpjjeaaGreatZhA
import Derived.Lib.AppendZerosOnto
set_option linter.unusedVariables false
set_option linter.unusedSimpArgs false
section
namespace Go.Abs
section
variable {P:Program} {M0:Nat→Prop} {H:AHeap} {σ:Nat→Option Ow} {w:World}
theorem F8 (o:Ow)(a:Nat)(h:σ a=some o):(λi=>if i=a then some o else σ i)=σ:=by grind
theorem Ef {n:Nat}:∀ (es:List (List D)) (i:Nat) (c c':List D),(∀ c∈es,c.length=n)->es[i]?=some c->c'.length=n ->
  (es.set i c').flatten=es.flatten.take (i * n)++c'++es.flatten.drop (i * n+n)
 | [],i,c,c',_,h,_=>by simp at h
 | e :: es,0,c,c',hl,h,hc'=>by
  have he:=hl e aF
  simp [he]
 | e :: es,i+1,c,c',hl,h,hc'=>by
  have he:=hl e aF
  simp at h
  have ih:=Ef es i c c' (λc hc=>hl c (by simp [hc])) h hc'
  simp only [DI,d9,ih]
  have e1:(i+1) * n=e.length+i * n:=by rw [Nat.add_mul,he];omega
  rw [e1,Ak,List.drop_append]
  simp only [List.append_assoc]
  rw [show List.take (e.length+i * n) e=e by rw [aY];omega,(aD:e.length+i * n - e.length=i * n),
   show List.drop (e.length+i * n+n) e=[] by rw [gH];omega,(aD:e.length+i * n+n - e.length=i * n+n)]
  simp
theorem iR {α:Type}(a b c:List α)(j:Nat):(a++b++c)[j]?=if j<a.length then a[j]? else if j<a.length+b.length then b[j - a.length]? else c[j - a.length - b.length]?:=by grind
theorem Af {M:Nat->Prop}{N:Nat->Prop}{v:Value}{d:D}(h:RepV M σ N w v d)(f:d.cells.all D.cell=true) :
    RepL M σ N w v.cells.toList d.cells/\∀ u∈v.cells.toList,u.oneCell'=true:=by
  cases d with
  | agg ds =>
    cases h
    rename_i g a e c
    exact ⟨⟨by simpa [Value.cells,D.cells] using e,λj u x hu hx=>c j u x (by simpa [Value.cells] using hu) (by simpa [D.cells] using hx)⟩,by simpa [Value.cells] using a⟩
  | _ =>
    first
    | (simp [D.cells,D.cell] at f;done)
    | (have a:=h.oneCell rfl
       have b:v.cells=#[v]:=by cases v<;>first|rfl|(simp [Value.oneCell'] at a)
       rw [b]
       refine ⟨⟨by simp [D.cells],λj u x hu hx=>?_⟩,by simpa using a⟩
       cases j with
       | zero=>simp [D.cells] at hu hx;subst hu;subst hx;exact h
       | succ j=>simp at hu)
theorem Jz {M:Nat->Prop}{N:Nat->Prop}{v:Value}{d:D}(h:RepV M σ N w v d)(a:d.cells.all D.cell=true):v.cells.size=d.cells.length:=by
 have:=(Af h a).1.len;simpa using this
def OpU (P:Program)(x:Sem Unit)(M0:Nat->Prop)(H:AHeap)(σ:Nat->Option Ow)(w:World)(H':AHeap):Prop :=
 ∃ w' σ',x.run P w=.ok () w'/\Rel M0 H' σ' w'/\Stp σ w σ' w'/\Keeps (cX M0 H σ) σ H.al w (cX M0 H' σ') σ' H'.al w'
theorem LC {t:TypeId}{va r:Value}{x v:D}(hR:Rel M0 H σ w)(hx:RepV (cX M0 H σ) σ H.al w va x)(hv:RepV (cX M0 H σ) σ H.al w r v)(Y:(lF P t x v H).cond) :
  OpU P (Instr.storeAt t va r) M0 H σ w (lF P t x v H).heap:=by
 unfold lF at *
 cases x<;>try (simp [AOut.bad] at Y;done)
 rename_i id ver i a
 cases V:H.get id with
 | none=>simp [V,AOut.bad] at Y
 | some k =>
  cases s:k.es[i]? with
  | none=>simp [V,s,AOut.bad] at Y
  | some c =>
   simp only [V,s] at Y ⊢
   obtain ⟨a8,b5,a2,I,z,b6⟩:=Y
   obtain ⟨ti,Q⟩:=fQ.1 I
   obtain ⟨o,ho,l⟩:=hR.lies id k V
   obtain ⟨E,S,N,p⟩:=l.row
   have a4:i<k.es.length:=(aL.1 s).1
   have b2:c.length=o.esz:=l.esz c (aI s)
   cases hx
   rename_i hN h1 h
   rcases h o ho with C|⟨b8,b,hb,rfl⟩
   .have:=l.ver;omega
   .obtain ⟨a3,O⟩:=Af hv z
    have a1:=Jz hv z
    have F:E.length=k.es.length * o.esz:=p.len.trans (kQ k.es l.esz)
    have a0:i * o.esz+o.esz<=E.length:=by
     rw [F]
     have:(i+1) * o.esz<=k.es.length * o.esz:=eQ _ a4
     rw [Nat.add_mul] at this;omega
    rcases S.2 with ⟨T,_⟩|⟨g,b4,n,B,b3,hg,U,b1,b0,G⟩
    .simp [Ow.block,T,Value.ownBlock] at hb
    .have a7:g=b:=by simpa [Ow.block,B,Value.ownBlock] using hb
     subst a7
     have b7:k.es.length * o.esz<=n.size:=by rw [b0];exact eQ _ U
     have R:=run_storeCells_at (P:=P) g (i * o.esz+a) k.ty r.cells.toList 0 n w hg (by simp;omega) O
     simp only [sN] at R
     have y:r.cells.size=ti.size:=by rw [a1,a2];simp [Program.cellsOf,Q]
     refine ⟨w.setRow g (n.toList.take (i * o.esz+a)++r.cells.toList++n.toList.drop (i * o.esz+a+r.cells.toList.length)).toArray,σ,?_,?_⟩
     .simp [Instr.storeAt,Instr.sureAddr,storeVar,sizeOf,typeInfo,Q,y]
      simpa [y] using R
     .have A:(rM c a v.cells).length=o.esz:=by simp [rM];omega
      have hp:=Rel.put hR V a8 ho { k with es:=k.es.set i (rM c a v.cells) } o (w':=w.setRow g (n.toList.take (i * o.esz+a)++r.cells.toList++n.toList.drop (i * o.esz+a+r.cells.toList.length)).toArray)
       ⟨rfl,rfl,rfl,by simp,λq _ hq=>setRow_other w g q _ (λe=>hq (by rw [e,hb]))⟩ (λb' hb'=>.inl hb') (.inl rfl) (bS l.ver) l.ty l.sz
       (λd m=>by
        rcases gI m with C|C
        .exact l.esz d C
        .rw [C,A])
       (E.take (i * o.esz+a)++r.cells.toList++E.drop (i * o.esz+a+r.cells.toList.length))
       ⟨by simp [F];omega,.inr ⟨g,b4,_,by simpa using B,b3,setRow_heap w g n _ k.ty _ hg,by simpa using U,b1,by simp;omega,by
        have c0:r.cells.toList.length=r.cells.size:=aF
        simp only [c7]
        rw [<- G]
        apply eZ
        intro j
        simp only [bU,iR,bQ,bZ,fS]
        by_cases hj:j<k.es.length * o.esz
        .rw [if_pos hj]
         have m1:min (i * o.esz+a) n.size=i * o.esz+a:=aD
         have M:min (i * o.esz+a) (min (k.es.length * o.esz) n.size)=i * o.esz+a:=aD
         rw [m1,M]
         split
         .first|rfl|rw [if_pos hj]
         .split
          .rfl
          .first|rfl|rw [if_pos aD]
        .rw [if_neg hj]
         have M:min (i * o.esz+a) (min (k.es.length * o.esz) n.size)=i * o.esz+a:=aD
         rw [M,if_neg aD,if_neg aD,if_neg aD]⟩⟩
       (λu f=>by
        simp only [aV] at f
        rcases f with (f|f)|f
        .exact N u (cK f)
        .exact O u f
        .exact N u (eR f))
       ⟨by rw [kQ _ (λd m=>by
          rcases gI m with C|C
          .exact l.esz d C
          .rw [C,A])];simp [F];omega,λj u d f m=>by
        simp only at m
        rw [Ef k.es i c _ l.esz s A] at m
        have a9:k.es.flatten.length=E.length:=p.len.symm
        simp only [iR,bQ,bU,bZ,a9,A,fS] at f m
        have m1:min (i * o.esz+a) E.length=i * o.esz+a:=aD
        have M:min (i * o.esz) E.length=i * o.esz:=aD
        rw [m1] at f
        rw [M] at m
        split at m
        .rename_i X
         rw [if_pos aD,if_pos aD] at f
         try rw [if_pos X] at m
         exact p.rep j u d f m
        .rename_i X
         split at m
         .rename_i a6
          simp only [rM,iR,bQ,bU,bZ] at m
          have m3:min a c.length=a:=aD
          rw [m3] at m
          split at m
          .rename_i W
           rw [if_pos aD,if_pos aD] at f
           try rw [if_pos W] at m
           refine p.rep j u d f ?_
           have:=l8 k.es i c l.esz s (j - i * o.esz) aD
           rw [(aD:i * o.esz+(j - i * o.esz)=j)] at this
           rw [this,m]
          .rename_i W
           split at m
           .rename_i a5
            rw [if_neg aD,if_pos aD] at f
            refine a3.rep (j - (i * o.esz+a)) u d f ?_
            rw [<- m];congr 1;omega
           .rename_i a5
            rw [if_neg aD,if_neg aD] at f
            have e1:i * o.esz+a+r.cells.size+(j - (i * o.esz+a) - r.cells.size)=j:=aD
            rw [e1] at f
            refine p.rep j u d f ?_
            have:=l8 k.es i c l.esz s (j - i * o.esz) aD
            rw [(aD:i * o.esz+(j - i * o.esz)=j)] at this
            rw [this,<- m];congr 1;omega
         .rename_i a6
          rw [if_neg aD,if_neg aD] at f
          have e1:i * o.esz+a+r.cells.size+(j - (i * o.esz+a) - r.cells.size)=j:=aD
          rw [e1] at f
          refine p.rep j u d f ?_
          rw [<- m];congr 1;omega⟩
      simp only [F8 o id ho] at hp
      exact hp
end
end Go.Abs
end
section
namespace Go.Abs
section
variable {P:Program} {M0:Nat→Prop} {H:AHeap} {σ:Nat→Option Ow} {w:World}
theorem qU {t:TypeId}{s:SlI}(h:sl P t=some s) :
  P.underlying t=some (.slice s.e)/\∃ i z,P.info? s.e=some i/\i.zero=some z/\i.size=s.sz/\i.bytes=s.by_/\0<s.sz/\s.by_<=4096/\s.z=z.cells.toList.map o9/\s.z.length=s.sz/\z.cells.size=s.sz/\s.z.all D.cell=true:=by
 unfold sl at h
 split at h
 .rename_i e f
  split at h
  .rename_i i g
   split at h
   .rename_i j
    obtain ⟨l,k,c,b⟩:=j
    cases h
    cases a:i.zero with
    | none=>simp [xT,a] at c;omega
    | some z =>
     refine ⟨f,i,z,g,a,rfl,rfl,l,k,by simp [xT,a],c,?_,b⟩
     simpa [xT,a] using c
   .cases h
  .cases h
 .cases h
theorem G5 {M:Nat->Prop}{N:Nat->Prop}(v:Value):RepV M σ N w v (o9 v):=by
 unfold o9
 split
 .exact .int _ _
 .exact .bool _
 .exact .str _
 .exact .nil
 .exact .nilp
 .exact .nilf
 .exact .junk _
theorem Pr {v:Value}(h:(o9 v).cell=true):v.oneCell'=true:=by
 cases v<;>first|rfl|(simp [o9,D.cell] at h)
theorem Ff {M:Nat->Prop}{N:Nat->Prop}(zs:List Value)(h:(zs.map o9).all D.cell=true):RepL M σ N w zs (zs.map o9)/\∀ u∈zs,u.oneCell'=true:=by
 refine ⟨⟨by simp,λj u d hu hd=>?_⟩,λu hu=>?_⟩
 .rw [aH,hu] at hd
  simp at hd;subst hd
  exact G5 u
 .simp only [List.all_map,cD,Function.comp] at h
  exact Pr (h u hu)
theorem rT {M:Nat->Prop}{N:Nat->Prop}{v:Value}{es:List (List D)}(h:RepV M σ N w v (.list es)) :
  (v=.slice none 0 0/\es=[])\/∃ ad cap sz xs,v=.slice (some ad) es.length cap/\RepL M σ N w xs es.flatten/\(∀ u∈xs,u.oneCell'=true) /\
   (∀ j u,xs[j]?=some u->¬ M ad.block/\w.cell? (ad.add j)=some u)/\es.length<=cap/\cap<=maxLen/\∀ c∈es,c.length=sz:=by
 generalize e:D.list es=d at h
 cases h with
 | listN=>cases e;exact .inl ⟨rfl,rfl⟩
 | list ad cap sz xs es k g b i l a f=>cases e;exact .inr ⟨ad,cap,sz,xs,rfl,⟨i,f⟩,l,a,k,g,b⟩
 | _=>cases e
theorem Nj {v:Value}{x:D}{es:List (List D)}(y:Rel M0 H σ w)(i:RepV (cX M0 H σ) σ H.al w v x)(a:oD H x=some es) :
  (v=.slice none 0 0/\es=[])\/∃ ad cap xs,v=.slice (some ad) es.length cap/\RepL (cX M0 H σ) σ H.al w xs es.flatten/\(∀ u∈xs,u.oneCell'=true) /\
   (∀ j u,xs[j]?=some u->w.cell? (ad.add j)=some u)/\es.length<=cap/\cap<=maxLen:=by
 cases x<;>simp only [oD] at a<;>try (cases a;done)
 case nil=>cases a;cases i;exact .inl ⟨rfl,rfl⟩
 case ne =>
  cases a;cases i;rename_i ad cap t
  exact .inr ⟨ad,cap,[],rfl,⟨rfl,λj u d hu=>by simp at hu⟩,by simp,λj u hu=>by simp at hu,eJ _,t⟩
 case list es' =>
  cases a
  rcases rT i with h|⟨ad,cap,C,xs,z,M,L,K,J,I,_⟩
  .exact .inl h
  grind
 case own id n =>
  cases q:H.get id with
  | none=>simp [q] at a
  | some k =>
   simp only [q] at a
   split at a
   .rename_i F
    cases a
    obtain ⟨o,s,l⟩:=y.lies id k q
    obtain ⟨xs,c,m,e⟩:=l.row
    cases i
    rename_i G z h
    rcases h o s with N|⟨_,rfl⟩
    .have:=l.ver;omega
    .rcases c.2 with ⟨f,A⟩|⟨g,cap,B,b,_,_,p,r,_⟩
     .exact .inl ⟨f,bJ A⟩
     .exact .inr ⟨⟨g,0,none⟩,cap,xs,b,e,m,c.cells (g:=g) (by simp [b,Value.ownBlock]),p,r⟩
   .cases a
theorem KT {nid:Nat}(hn:¬ H.al nid){t t' ty:TypeId}{va vb:Value}{x y:D}(hR:Rel M0 H σ w)(hx:RepV (cX M0 H σ) σ H.al w va x)(hy:RepV (cX M0 H σ) σ H.al w vb y)
  (b0:(oD H y).isSome=true) (U:(j7 P nid t t' x y H).cond):(j7 P nid t t' x y H).fact/\OpS P (Builtin.append_ #[t,t'] ty #[va,vb]) M0 H σ w (j7 P nid t t' x y H).val (j7 P nid t t' x y H).heap:=by
 unfold j7 at *
 cases hs:sl P t with
 | none=>simp [hs,AOut.bad] at U
 | some s =>
  cases he:oD H y with
  | none=>rw [he] at b0;cases b0
  | some ys =>
   simp only [hs,he] at U ⊢
   obtain ⟨F,i,z,hi,hz,C,M,b5,c0,c3,c2,b1,c4⟩:=qU hs
   have a9:∀ m:Nat,m<=4294967296->m<=maxLen/\m * s.by_<=140737488355328:=λm hm=>by
    refine ⟨by simp only [maxLen];omega,?_⟩
    have:=mE hm c0
    omega
   have V:∀ (v:Value) (n:Nat) (J:List Value),w.ownsRow 0 s.e s.sz v n J->n+ys.length<=4294967296->(∀ c∈ys,c.length=s.sz)->ys.flatten.all D.cell=true ->
     ∃ G w' a,(Builtin.append_ #[t,t] ty #[v,vb]).run P w=.ok G w'/\w'.ownsRow 0 s.e s.sz G (n+ys.length) (J++a)/\w.grownBy w' v.ownBlock /\
      RepL (cX M0 H σ) σ H.al w a ys.flatten/\(∀ u∈a,u.oneCell'=true)/\(ys.length=0->G=v)/\(∀ b,G.ownBlock=some b->v.ownBlock=some b\/w.heap.size<=b):=by
    intro v n J q a1 B E
    rcases Nj hR hy he with ⟨rfl,L⟩|⟨ad,Q,a,rfl,r,h1,T,c7,c6⟩
    .subst L
     exact ⟨v,w,[],run_append_owned_none w 0 t ty s.e i s.sz F hi v n J q,by simpa using q,⟨rfl,rfl,rfl,bC _,λ_ _ _=>rfl⟩,⟨rfl,λj u d F=>by simp at F⟩,by simp,λ_=>rfl,λb O=>.inl O⟩
    .have hnl:a.length=ys.length * s.sz:=r.len.trans (kQ ys B)
     by_cases h0:ys.length=0
     .have hn0:a=[]:=bJ (by rw [hnl,h0];simp)
      subst hn0
      have f:(Builtin.append_ #[t,t] ty #[v,.slice (some ad) ys.length Q]).run P w=.ok v w:=by
       rw [h0]
       rcases q.2 with ⟨rfl,rfl⟩|⟨g,I,a2,rfl,_,_,a7,_⟩
       .simp [Builtin.append_,run_underlying F,sizeOf,typeInfo,hi,Builtin.lenOf,Builtin.firstCells,loadCells,loadCellsFrom]
       .simp [Builtin.append_,run_underlying F,sizeOf,typeInfo,hi,Builtin.lenOf,Builtin.firstCells,loadCells,loadCellsFrom,a7,storeCells]
      exact ⟨v,w,[],f,by simpa [h0] using q,⟨rfl,rfl,rfl,bC _,λ_ _ _=>rfl⟩,r,by simp,λ_=>rfl,λb O=>.inl O⟩
     .obtain ⟨a0,Z⟩:=a9 _ a1
      obtain ⟨G,w',f,p,S,_⟩:=run_append_own (P:=P) w 0 t ty s.e i z s.sz s.by_ F hi hz C M b1 b5 v n J q ad ys.length Q a hnl T h1 a0 Z (eJ _)
      refine ⟨G,w',a,f,p,S,r,h1,λh=>absurd h h0,λb O=>?_⟩
      rcases bX b w.heap.size with c5|hge
      .left
       rcases q.2 with ⟨L,hn⟩|⟨g,I,a2,hv,_,b7,a7,c8,b9,b4⟩
       .subst L;subst hn
        have b3:J=[]:=bJ (bS q.1)
        subst b3
        have hr:=run_append_nil (P:=P) w t ty s.e i z F hi hz ad ys.length Q a (by rw [hnl,C]) T aD (by simp only [maxLen] at a0;omega) (by rw [M];have:=Z;simp only [d8] at this;omega)
        rw [hr] at f
        cases f
        simp [Value.ownBlock] at O
        omega
       .subst hv
        by_cases K:n+ys.length<=I
        .have hfit':n * i.size+a.length<=a2.size:=by rw [hnl,b9,C,<- Nat.add_mul];exact eQ _ K
         have hr:=run_append_room (P:=P) w t ty s.e i F hi g n I a2 b7 ad ys.length Q a (by rw [hnl,C]) T h1 K hfit'
         rw [hr] at f
         cases f
         exact O
        .have holds:∀ j u,J[j]?=some u->w.cell? ((⟨g,0,none⟩:Addr).add j)=some u:=q.cells (g:=g) rfl
         have hr:=run_append_grow (P:=P) w t ty s.e i z F hi hz ⟨g,0,none⟩ n I J (by rw [q.1,C]) holds ad ys.length Q a (by rw [hnl,C]) T aD (by simp only [maxLen] at a0;omega) (growslice_fits aD (by rw [M];exact Z))
         rw [hr] at f
         cases f
         simp [Value.ownBlock] at O
         omega
      .exact .inr hge
   cases x<;>try (simp [AOut.bad] at U;done)
   case nil =>
    obtain ⟨rfl,a1,B,E⟩:=U
    cases hx
    obtain ⟨G,w',a,f,p,S,r,h1,_,N⟩:=V _ 0 [] (World.ownsRow_nil w 0 s.e s.sz) aD B E
    have Y:=Rel.push hR nid hn (w':=w') S.os S.tape S.output S.size (λb O=>S.block b O (by simp [Value.ownBlock])) ⟨s.e,s.sz,ys,false⟩ ⟨ys.length,G,s.sz,s.e⟩
     (λb O=>by
      rcases N b O with h|h
      .simp [Value.ownBlock] at h
      .exact h) rfl rfl rfl B a (bS p) h1 r
    refine ⟨trivial,G,w',_,f,Y.1,.own G nid ys.length (.inl rfl) ?_ λo ho=>?_,Y.2.1,Y.2.2⟩
    .rcases p.2 with ⟨rfl,_⟩|⟨g,c,cu,rfl,_⟩<;>rfl
    .simp at ho;subst ho;exact .inr ⟨rfl,rfl⟩
   case own id n =>
    cases hk:H.get id with
    | none=>simp [hk,AOut.bad] at U
    | some k =>
     simp only [hk] at U ⊢
     obtain ⟨rfl,b8,R,a6,a1,a8,B,E⟩:=U
     obtain ⟨o,ho,l⟩:=hR.lies id k hk
     obtain ⟨J,a4,b2,A⟩:=l.row
     cases hx
     rename_i c9 hN h
     rcases h o ho with h'|⟨_,rfl⟩
     .have:=l.ver;omega
     .have hesz:o.esz=s.sz:=l.sz.trans a8
      have X:w.ownsRow 0 s.e s.sz o.val k.es.length J:=by rw [<- R,<- hesz];exact a4
      obtain ⟨G,w',a,f,p,S,r,h1,W,N⟩:=V o.val k.es.length J X aD B E
      have Y:=Rel.put hR (w':=w') hk b8 ho { k with es:=k.es++ys } ⟨k.es.length+ys.length,G,s.sz,s.e⟩ S N
       (by
        by_cases h0:ys.length=0
        .left
         have:=l.ver;have a3:=W h0
         obtain ⟨ov,c1,oe,ot⟩:=o
         simp only at this a3 hesz ⊢
         have ht:=l.ty
         simp only at ht
         subst this;subst a3;subst hesz
         rw [ht,R];simp [h0]
        .right;have:=l.ver;simp only;omega)
       aF (by simp [R]) (by simp [a8])
       (λc U=>by
        rcases aV.1 U with h'|h'
        .simpa [<- hesz] using l.esz c h'
        .exact B c h')
       (J++a) (by simpa [R] using p) (λu F=>by
        rcases aV.1 F with h'|h'
        .exact b2 u h'
        .exact h1 u h')
       ⟨by simp only [aJ,kZ,A.len,r.len],λj u d F hd=>by
        simp only [kZ] at hd
        by_cases hj:j<J.length
        .rw [aT hj] at F
         rw [aT (by rw [<- A.len];exact hj)] at hd
         exact A.rep j u d F hd
        .rw [bB aD] at F
         rw [bB (by rw [<- A.len];omega),<- A.len] at hd
         exact r.rep _ u d F hd⟩
      have b6:n=k.es.length:=a6.symm
      subst b6
      refine ⟨trivial,G,w',_,f,Y.1,.own G id _ hN ?_ λo' a5=>?_,Y.2.1,Y.2.2⟩
      .rcases p.2 with ⟨rfl,_⟩|⟨g,c,cu,rfl,_⟩<;>rfl
      .simp at a5;subst a5;exact .inr ⟨rfl,rfl⟩
end
end Go.Abs
end
section
namespace Go.Abs
section
variable {P:Program} {M0:Nat→Prop} {H:AHeap} {σ:Nat→Option Ow} {w:World}
theorem lI (z:List D)(n:Nat):((List.replicate n z).flatten).length=n * z.length:=by simp_all
theorem xK (z:List D)(n j:Nat)(d:0<z.length)(b:j<n * z.length):((List.replicate n z).flatten)[j]?=z[j % z.length]?:=by
 have a:=l8 (n:=z.length) (List.replicate n z) (j / z.length) z (λc hc=>by rw [kC hc])
  (by rw [nT,if_pos (Nat.div_lt_of_lt_mul (by rw [Nat.mul_comm];exact b))]) (j % z.length) (Nat.mod_lt _ d)
 rw [show j / z.length * z.length+j % z.length=j by rw [Nat.mul_comm];exact Nat.div_add_mod _ _] at a
 exact a
theorem pJ {M:Nat->Prop}{N:Nat->Prop}(z:Value)(n:Nat)(e:0<z.cells.size)(h:(z.cells.toList.map o9).all D.cell=true) :
  RepL M σ N w (madeCells z.cells (n * z.cells.size)).toList (List.replicate n (z.cells.toList.map o9)).flatten/\∀ u∈(madeCells z.cells (n * z.cells.size)).toList,u.oneCell'=true:=by
 obtain ⟨g,i⟩:=Ff (M:=M) (σ:=σ) (N:=N) (w:=w) z.cells.toList h
 have a:∀ j u,(madeCells z.cells (n * z.cells.size)).toList[j]?=some u->j<n * z.cells.size/\z.cells.toList[j % z.cells.size]?=some u:=by
  intro j u b
  have c:j<n * z.cells.size:=by
   have:=(aL.1 b).1
   simpa [size_madeCells] using this
  refine ⟨c,?_⟩
  have k:j % z.cells.size<z.cells.size:=Nat.mod_lt _ e
  simp [madeCells,c] at b
  grind
 refine ⟨⟨by rw [lI];simp [size_madeCells],λj u d b hd=>?_⟩,λu b=>?_⟩
 .obtain ⟨c,f⟩:=a j u b
  rw [xK _ n j (bS e) (bS c)] at hd
  exact g.rep _ u d f (bS hd)
 .obtain ⟨j,c⟩:=List.mem_iff_getElem?.1 b
  exact i u (aI (a j u c).2)
theorem OX {nid:Nat}(S:¬ H.al nid){t:TypeId}{F G:Value}{l c:D}(W:Rel M0 H σ w)(T:RepV (cX M0 H σ) σ H.al w F l)(B:RepV (cX M0 H σ) σ H.al w G c)
  (r:(CG P nid t l c H).cond):(CG P nid t l c H).fact/\OpS P (Instr.makeSlice t F G) M0 H σ w (CG P nid t l c H).val (CG P nid t l c H).heap:=by
 unfold CG at *
 split at r
 .rename_i s _ n _ m O
  obtain ⟨rfl,A,R⟩:=r
  cases T;cases B
  obtain ⟨K,i,z,V,J,j,p,L,C,a,f,v,x⟩:=qU O
  obtain ⟨k,rfl⟩:=eB A
  have U:k<=4294967296:=aD
  have u:i.bytes * k<=281474976710656:=by
   rw [p]
   have:=mE C U
   omega
  obtain ⟨w',g,h,q⟩:=run_make_full (P:=P) w 0 t s.e i z s.sz K V J j _ _ k u (by simp only [maxLen];omega) (eJ _)
  obtain ⟨Q,X⟩:=pJ (M:=cX M0 H σ) (σ:=σ) (N:=H.al) (w:=w) z k aD (by rw [<- a];exact x)
  have y:=Rel.push W nid S (w':=w') q.os q.tape q.output q.size (λb u=>q.block b u aF) ⟨s.e,s.sz,List.replicate k s.z,false⟩ ⟨k,.slice (some ⟨w.heap.size,0,none⟩) k k,s.sz,s.e⟩
   (λb u=>by simp [Ow.block,Value.ownBlock] at u;omega) aF rfl rfl (λc r=>by rw [kC r,f])
   _ (by simpa [v] using h) X (by simpa [a] using Q)
  refine ⟨trivial,_,w',_,g,y.1,.own _ nid k (.inl rfl) rfl λo ho=>?_,y.2.1,y.2.2⟩
  grind
 .exact r.elim
theorem yA {t K ty e:TypeId}{i:TypeInfo}{z:Value}{kq kn:IntKind}(N:P.underlying t=some (.slice e))(C:P.underlying K=some (.int kn))(Z:P.info? e=some i)(hz:i.zero=some z)
  (M:z.cells.size=i.size) (O:0<i.size) (v:Value) (n:Nat) (xs:List Value) (c:w.ownsRow 0 e i.size v n xs) (m:Nat) (T:∀ u∈(madeCells z.cells (m * z.cells.size)).toList,u.oneCell'=true) (hm:n+m<=4294967296) (a9:n+m<=maxLen) (G:(n+m) * i.bytes<=140737488355328) :
  ∃ v' w',(Builtin.append_ #[t,K] ty #[v,.int kq m]).run P w=.ok v' w'/\w'.ownsRow 0 e i.size v' (n+m) (xs++(madeCells z.cells (m * z.cells.size)).toList)/\w.grownBy w' v.ownBlock /\
   (m=0->v'=v)/\(∀ b,v'.ownBlock=some b->v.ownBlock=some b\/w.heap.size<=b):=by
 have X:∀ k,madeCells z.cells (k * z.cells.size)=Builtin.zeroCells z.cells k:=λk=>rfl
 have D:(madeCells z.cells (m * z.cells.size)).toList.length=m * i.size:=by simp [size_madeCells,M]
 obtain ⟨a,j⟩:∃ x,x=(madeCells z.cells (m * z.cells.size)).toList:=⟨_,rfl⟩
 rw [<- j] at D ⊢
 have s:(xs++a).length=(n+m) * i.size:=by rw [aJ,c.1,D,Nat.add_mul]
 have hw:IntKind.i64.wrap (m:Int)=m:=by rw [IntKind.wrap_i64];omega
 have V:¬ ((m:Int)<0):=aD
 have Y:m * i.bytes<=281474976710656:=by have:=eQ i.bytes (aD:m<=n+m);omega
 have a1:¬ (281474976710656<(m:Int) * (i.bytes:Int)):=by rw [<- Int.natCast_mul];omega
 have jF:∀ (o:Nat),o<n+m->∀ (L:Option Nat),
   (w.drew.alloc (.cells (xs.toArray++Builtin.zeroCells z.cells m++Builtin.zeroCells z.cells (grownCap w (n+m) o e - (n+m))) e)).ownsRow 0 e i.size
    (.slice (some ⟨w.heap.size,0,none⟩) (n+m) (grownCap w (n+m) o e)) (n+m) (xs++a) /\
   w.grownBy (w.drew.alloc (.cells (xs.toArray++Builtin.zeroCells z.cells m++Builtin.zeroCells z.cells (grownCap w (n+m) o e - (n+m))) e)) L:=by
  intro o ho L
  have a6:=grownCap_ge w (n+m) o e
  have J:grownCap w (n+m) o e<=maxLen:=grownCap_le_maxLen w (n+m) o e a9
  have a2:Builtin.zeroCells z.cells m=a.toArray:=by rw [j,<- X]
  rw [a2]
  refine ⟨⟨s,.inr ⟨w.heap.size,_,_,rfl,eJ _,heap_alloc_new w.drew _,a6,J,?_,?_⟩⟩,⟨rfl,rfl,rfl,by simp,λk hk _=>heap_alloc_old w.drew _ hk⟩⟩
  .simp only [Array.size_append,mP,size_zeroCells,M,c.1,D,<- Nat.add_mul]
   congr 1
   omega
  .simp only [Array.toList_append,List.append_assoc]
   rw [<- List.append_assoc,<- s]
   exact List.take_left
 by_cases E:m=0
 .subst E
  have a5:a=[]:=bJ (by rw [D];simp)
  subst a5
  have R:(Builtin.append_ #[t,K] ty #[v,.int kq (0:Nat)]).run P w=.ok v w:=by
   rcases c.2 with ⟨rfl,rfl⟩|⟨g,b0,A,rfl,_,_,W,_⟩
   .simp [Builtin.append_,run_underlying N,run_underlying C,sizeOf,typeInfo,Z,asInt,asIntOf,IntKind.wrap_i64]
   .simp [Builtin.append_,run_underlying N,run_underlying C,sizeOf,typeInfo,Z,asInt,asIntOf,IntKind.wrap_i64,W,storeCells]
  exact ⟨v,w,R,by simpa using c,⟨rfl,rfl,rfl,bC _,λ_ _ _=>rfl⟩,λ_=>rfl,λb hb=>.inl hb⟩
 .rcases c.2 with ⟨rfl,rfl⟩|⟨g,l,A,rfl,a8,hg,W,J,a7,I⟩
  .have hx:xs=[]:=bJ (bS c.1)
   subst hx
   have S:=Lib.run_append_nil_zeros (P:=P) w t K ty e i z kq kn N C Z hz m aD O aD Y
   have y:=jF 0 aD (Value.ownBlock (.slice none 0 0))
   simp only [d8,fR,Array.empty_append] at y ⊢
   exact ⟨_,_,S,y.1,y.2,λh=>absurd h E,λb hb=>.inr (by simp [Value.ownBlock] at hb;omega)⟩
  .by_cases q:n+m<=l
   .have a0:n * i.size+a.length<=A.size:=by rw [D,a7,<- Nat.add_mul];exact eQ _ q
    have Q:=run_storeCells_at P g (n * i.size) e a 0 A w hg (bS a0) (λu hu=>by
     rw [j] at hu
     exact T u hu)
    have a3:(Builtin.zeroCells z.cells m).toList=a:=by rw [j,X]
    have a4:¬ (m * i.size=0):=Nat.mul_ne_zero E aD
    simp only [sN] at Q
    have S:(Builtin.append_ #[t,K] ty #[.slice (some ⟨g,0,none⟩) n l,.int kq m]).run P w=.ok (.slice (some ⟨g,0,none⟩) (n+m) l) (w.setRow g (A.toList.take (n * i.size)++a++A.toList.drop (n * i.size+a.length)).toArray):=by
     simp [Builtin.append_,run_underlying N,run_underlying C,sizeOf,typeInfo,zeroValue,Z,hz,asInt,asIntOf,hw,V,a4,a1,q,Addr.add_lit,a3,Q]
    refine ⟨_,_,S,⟨s,.inr ⟨g,l,_,rfl,a8,setRow_heap w g A _ e _ hg,q,J,?_,?_⟩⟩,⟨rfl,rfl,rfl,by simp,λk _ hk=>setRow_other w g k _ (λe=>hk (by simp [Value.ownBlock,e]))⟩,λh=>absurd h E,λb hb=>.inl hb⟩
    .simp only [mP,aJ,bQ,jA,fS]
     omega
    .rw [I,<- s]
     exact List.take_left
   .have U:(Builtin.firstCells i.size n (.slice (some ⟨g,0,none⟩) n l)).run P w.drew=.ok xs.toArray w.drew :=
     run_firstCells_some (P:=P) w.drew i.size n ⟨g,0,none⟩ n l xs c.1 (c.cells (g:=g) rfl)
    have S:=Lib.run_append_grow_zeros (P:=P) w t K ty e i z kq kn N C Z hz (some ⟨g,0,none⟩) n l xs U m aD O aD aD Y (growslice_fits aD G)
    have y:=jF l aD (Value.ownBlock (.slice (some ⟨g,0,none⟩) n l))
    exact ⟨_,_,S,y.1,y.2,λh=>absurd h E,λb hb=>.inr (by simp [Value.ownBlock] at hb;omega)⟩
theorem Ij {t E ty:TypeId}{s:SlI}{va vb:Value}{x y:D}(hs:sl P t=some s)(hR:Rel M0 H σ w)(hx:RepV (cX M0 H σ) σ H.al w va x)(hy:RepV (cX M0 H σ) σ H.al w vb y)
  (q:(oL P s E x y H).cond):(oL P s E x y H).fact/\OpS P (Builtin.append_ #[t,E] ty #[va,vb]) M0 H σ w (oL P s E x y H).val (oL P s E x y H).heap:=by
 unfold oL at *
 obtain ⟨v,i,z,hi,hz,V,a7,R,a8,f,A,Q,a1⟩:=qU hs
 cases y<;>try (simp [AOut.bad] at q;done)
 rename_i kq m
 cases x<;>try (simp [AOut.bad] at q;done)
 rename_i id n
 cases K:A8 P E with
 | none=>simp [K,AOut.bad] at q
 | some kn =>
  simp only [K] at q ⊢
  cases Y:H.get id with
  | none=>simp [Y,AOut.bad] at q
  | some k =>
   simp only [Y] at q ⊢
   obtain ⟨a4,a5,r,U,I,J⟩:=q
   obtain ⟨m,rfl⟩:=eB a4
   simp only [Int.toNat_natCast] at I ⊢
   have a3:P.underlying E=some (.int kn):=by
    unfold A8 at K
    grind
   obtain ⟨o,ho,l⟩:=hR.lies id k Y
   obtain ⟨X,B,a2,a⟩:=l.row
   cases hx
   rename_i a9 hN h
   cases hy
   rcases h o ho with C|⟨_,rfl⟩
   .have:=l.ver;omega
   .have b:o.esz=s.sz:=l.sz.trans J
    rw [<- V] at R A Q b J
    have G:w.ownsRow 0 s.e i.size o.val k.es.length X:=by rw [<- r];rw [b] at B;exact B
    have hb:(n+m) * i.bytes<=140737488355328:=by
     have:=mE I (aD:i.bytes<=4096)
     omega
    obtain ⟨hr,h1⟩:=pJ (M:=cX M0 H σ) (σ:=σ) (N:=H.al) (w:=w) z m aD (by rw [<- f];exact a1)
    subst U
    obtain ⟨Z,w',T,p,hg,F,W⟩:=yA (P:=P) (ty:=ty) (kq:=kq) v a3 hi hz Q R o.val k.es.length X G m h1 I (by simp only [maxLen];omega) hb
    have a0:∀ c∈List.replicate m s.z,c.length=i.size:=λc q=>by rw [kC q,A]
    have hp:=Rel.put hR (w':=w') Y a5 ho { k with es:=k.es++List.replicate m s.z } ⟨k.es.length+m,Z,i.size,s.e⟩ hg W
     (by
      by_cases h0:m=0
      .left
       have:=l.ver;have S:=F h0
       obtain ⟨ov,a6,oe,ot⟩:=o
       simp only at this S b ⊢
       have ht:=l.ty
       simp only at ht
       subst this;subst S;subst b
       rw [ht,r];simp [h0]
      .right;have:=l.ver;simp only;omega)
     aF (by simp [r]) (by simp [J])
     (λc q=>by
      rcases aV.1 q with C|C
      .simpa [<- b] using l.esz c C
      .exact a0 c C)
     (X++(madeCells z.cells (m * z.cells.size)).toList) (by simpa [r] using p) (λu v=>by
      rcases aV.1 v with C|C
      .exact a2 u C
      .exact h1 u C)
     ⟨by simp only [aJ,kZ,a.len];rw [hr.len,f],λj u d v hd=>by
      simp only [kZ] at hd
      by_cases hj:j<X.length
      .rw [aT hj] at v
       rw [aT (by rw [<- a.len];exact hj)] at hd
       exact a.rep j u d v hd
      .rw [bB aD] at v
       rw [bB (by rw [<- a.len];omega),<- a.len,f] at hd
       exact hr.rep _ u d v hd⟩
    refine ⟨trivial,Z,w',_,T,hp.1,.own Z id _ hN ?_ λo' ho'=>?_,hp.2.1,hp.2.2⟩
    .rcases p.2 with ⟨rfl,_⟩|⟨g,c,cu,rfl,_⟩<;>rfl
    .simp at ho';subst ho';exact .inr ⟨rfl,rfl⟩
theorem Ii {nid:Nat}(l:¬ H.al nid){t a ty:TypeId}{h g:Value}{x y:D}(k:Rel M0 H σ w)(j:RepV (cX M0 H σ) σ H.al w h x)(i:RepV (cX M0 H σ) σ H.al w g y)
  (d:(j7 P nid t a x y H).cond):(j7 P nid t a x y H).fact/\OpS P (Builtin.append_ #[t,a] ty #[h,g]) M0 H σ w (j7 P nid t a x y H).val (j7 P nid t a x y H).heap:=by
 cases f:oD H y with
 | some n=>exact KT l k j i (by rw [f];rfl) d
 | none =>
  cases e:sl P t with
  | none=>unfold j7 at d;simp [e,f,AOut.bad] at d
  | some s =>
   have m:j7 P nid t a x y H=oL P s a x y H:=by unfold j7;simp only [e,f]
   rw [m] at d ⊢
   exact Ij e k j i d
theorem Hg (w:World)(cs:Array Value)(t:TypeId)(j:Nat):(w.alloc (.cells cs t)).cell? ⟨w.heap.size,j,none⟩=cs[j]?:=by simp_all
theorem MF {M0:Nat->Prop}{nid:Nat}(hn:¬ H.al nid)(hR:Rel M0 H σ w)(m:Bool)(t:TypeId)(cs:Array Value)(ds:List D)(hrep:RepL (cX M0 H σ) σ H.al w cs.toList ds)(h1:∀ u∈cs.toList,u.oneCell'=true) :
  let d:D:=if m then .ptr nid 1 0 0 else .adr ds
  let H':=if m then H.push nid ⟨t,ds.length,[ds],false⟩ else H
  ∃ σ',Rel M0 H' σ' (w.alloc (.cells cs t))/\RepV (cX M0 H' σ') σ' H'.al (w.alloc (.cells cs t)) (.pointer (some ⟨w.heap.size,0,none⟩)) d/\Stp σ w σ' (w.alloc (.cells cs t)) /\
   Keeps (cX M0 H σ) σ H.al w (cX M0 H' σ') σ' H'.al (w.alloc (.cells cs t)):=by
 have hold:∀ b,b<w.heap.size->(w.alloc (.cells cs t)).heap[b]?=w.heap[b]?:=λ_ hb=>heap_alloc_old _ _ hb
 have hl:cs.size=ds.length:=by simpa using hrep.len
 cases m with
 | false =>
  obtain ⟨hR',hS,hK⟩:=Rel.grow hR (w':=w.alloc (.cells cs t)) rfl rfl rfl aF hold
  refine ⟨σ,hR',.adr _ cs.toList ds hrep.len h1 (λj u hu=>⟨?_,?_⟩) λj u d hu hd=>(hrep.rep j u d hu hd).keep hK,hS,hK⟩
  .rintro (hm|⟨i,k,o,_,_,ho,hb⟩)
   .exact absurd (hR.m0 _ hm) (nQ _)
   .exact absurd (hR.lt i o _ ho hb).1 (nQ _)
  .rw [jG,d8,Hg];simpa using hu
 | true =>
  simp only [if_true]
  have hp:=Rel.push hR nid hn (w':=w.alloc (.cells cs t)) rfl rfl rfl aF hold ⟨t,ds.length,[ds],false⟩ ⟨1,.slice (some ⟨w.heap.size,0,none⟩) 1 1,ds.length,t⟩
   (λb hb=>by simp [Ow.block,Value.ownBlock] at hb;omega) rfl rfl rfl aF cs.toList
   (World.ownsRow_lit w cs 1 (eJ _) (by simp [maxLen]) (by simp [hl])) h1 (bS hrep)
  refine ⟨_,hp.1,.ptr _ nid 1 0 0 (.inl rfl) rfl λo ho=>?_,hp.2.1,hp.2.2⟩
  simp at ho;subst ho
  exact .inr ⟨rfl,_,rfl,by simp⟩
theorem R1 {nid:Nat}(o:¬ H.al nid){m:Bool}{t:TypeId}{d:Value}{x:D}(p:Rel M0 H σ w)(l:RepV (cX M0 H σ) σ H.al w d x)(g:(K7 P nid m t x H).cond) :
  (K7 P nid m t x H).fact/\OpS P (Instr.box t d) M0 H σ w (K7 P nid m t x H).val (K7 P nid m t x H).heap:=by
 have c:x.cells.all D.cell=true:=by unfold K7 at g;cases m<;>exact g
 obtain ⟨n,q⟩:=Af l c
 obtain ⟨σ',k,j,i,h⟩:=MF o p m t d.cells x.cells n q
 have b:(Instr.box t d).run P w=.ok (.pointer (some ⟨w.heap.size,0,none⟩)) (w.alloc (.cells d.cells t)):=by
  simp [Instr.box,newVar,newRow]
 cases m with
 | false=>exact ⟨trivial,_,_,σ',b,k,j,i,h⟩
 | true=>exact ⟨trivial,_,_,σ',b,k,j,i,h⟩
theorem PV {t:TypeId}{z:List D}(h:zd P t=some z):∃ de i v,P.underlying t=some de/\P.info? t=some i/\i.zero=some v/\z=v.cells.toList.map o9/\z.length=i.size/\0<i.size/\z.all D.cell=true:=by
 unfold zd at h
 split at h
 .rename_i de i d e
  split at h
  .rename_i a
   cases h
   cases b:i.zero with
   | none=>simp [xT,b] at a;omega
   | some v=>exact ⟨de,i,v,d,e,b,by simp [xT,b],a.1,a.2.1,a.2.2⟩
  .cases h
 .cases h
theorem NQ {nid:Nat}(q:¬ H.al nid){m:Bool}{t:TypeId}(u:Rel M0 H σ w)(s:(wQ P nid m t H).cond) :
  (wQ P nid m t H).fact/\OpS P (Instr.alloc t true (.tuple #[])) M0 H σ w (wQ P nid m t H).val (wQ P nid m t H).heap:=by
 unfold wQ at *
 cases h:zd P t with
 | none=>simp [h,AOut.bad] at s
 | some z =>
  obtain ⟨C,i,v,y,r,o,rfl,A,B,d⟩:=PV h
  obtain ⟨p,x⟩:=Ff (M:=cX M0 H σ) (σ:=σ) (N:=H.al) (w:=w) v.cells.toList d
  obtain ⟨σ',n,l,k,j⟩:=MF q u m t v.cells _ p x
  have b:(Instr.alloc t true (.tuple #[])).run P w=.ok (.pointer (some ⟨w.heap.size,0,none⟩)) (w.alloc (.cells v.cells t)):=by
   simp [Instr.alloc,zeroValue,typeInfo,r,o,newVar,newRow]
  cases m with
  | false=>exact ⟨trivial,_,_,σ',b,n,l,k,j⟩
  | true=>exact ⟨trivial,_,_,σ',b,n,l,k,j⟩
theorem Nd (cs:List Value):∀ (b d:Nat) (zs:Array Value),b+d+cs.length<=zs.size ->
  ((cs.zipIdx d).foldl (λa (p:Value × Nat)=>a.setIfInBounds (b+p.2) p.1) zs).toList=zs.toList.take (b+d)++cs++zs.toList.drop (b+d+cs.length):=by
 induction cs with
 | nil=>intro b d zs h;simp
 | cons c cs ih =>
  intro b d zs h
  simp only [List.zipIdx_cons,Bn]
  have i:b+d+(cs.length+1)<=zs.size:=by simpa using h
  rw [ih b (d+1) _ (by simp;omega)]
  apply eZ
  intro q
  simp only [Array.toList_setIfInBounds,iR,bQ,c7,fS,bU,bZ,cE,eV]
  have e:min (b+(d+1)) zs.size=b+(d+1):=aD
  grind
theorem Bc {M:Nat->Prop}{N:Nat->Prop}(places:Nat->Option (Nat × Nat)):∀ (pv:List (Nat × Value)) (pd:List (Nat × D)) (zs:Array Value) (ds out:List D),
  pv.map (·.1)=pd.map (·.1)->(∀ (j:Nat) (v:Value) (d:D),(pv.map (·.2))[j]?=some v->(pd.map (·.2))[j]?=some d->RepV M σ N w v d)->(∀ p∈pd,p.2.cells.all D.cell=true) ->
  RepL M σ N w zs.toList ds->(∀ u∈zs.toList,u.oneCell'=true)->AO places ds pd=some out ->
  ∃ cs,Instr.fill places zs pv=some cs/\RepL M σ N w cs.toList out/\(∀ u∈cs.toList,u.oneCell'=true)/\out.length=ds.length
 | [],pd,zs,ds,out,hk,hr,hcl,hz,h1,hf=>by
  cases pd with
  | cons p pd=>simp at hk
  | nil=>simp [AO] at hf;subst hf;exact ⟨zs,rfl,hz,h1,rfl⟩
 | (i,v) :: pv,pd,zs,ds,out,hk,hr,hcl,hz,h1,hf=>by
  cases pd with
  | nil=>simp at hk
  | cons p pd =>
   obtain ⟨i',d⟩:=p
   simp at hk
   obtain ⟨rfl,hk⟩:=hk
   unfold AO at hf
   unfold Instr.fill
   cases hp:places i with
   | none=>simp [hp] at hf
   | some q =>
    obtain ⟨off,size⟩:=q
    simp only [hp] at hf ⊢
    split at hf
    .rename_i hc
     obtain ⟨hc1,hc2⟩:=hc
     have hvd:=hr 0 v d rfl rfl
     obtain ⟨hrv,hv1⟩:=Af hvd (hcl (i,d) aF)
     have hvl:v.cells.size=d.cells.length:=Jz hvd (hcl (i,d) aF)
     have hzl:zs.size=ds.length:=by simpa using hz.len
     have hcond:(v.cells.size≠size||off+v.cells.size > zs.size)=false:=by simp;omega
     have hs:=Nd v.cells.toList off 0 zs (by simp;omega)
     simp only [sN] at hs
     have hfold:v.cells.zipIdx.foldl (λcs (x:Value × Nat)=>cs.setIfInBounds (off+x.2) x.1) zs=(v.cells.toList.zipIdx 0).foldl (λcs (x:Value × Nat)=>cs.setIfInBounds (off+x.2) x.1) zs:=by
      rw [<- Array.foldl_toList,Array.toList_zipIdx]
     obtain ⟨cs,hfill,hrep,h1',hlen⟩:=Bc places pv pd (v.cells.zipIdx.foldl (λcs (x:Value × Nat)=>cs.setIfInBounds (off+x.2) x.1) zs) (rM ds off d.cells) out hk
      (λj u x hu hx=>hr (j+1) u x hu hx) (λp hp=>hcl p (by simp [hp]))
      (by
       rw [hfold,hs]
       have hvl':v.cells.toList.length=d.cells.length:=by simpa using hvl
       refine ⟨by simp [rM];omega,λj u x hu hx=>?_⟩
       simp only [rM,iR,bQ,bU,bZ,fS,hvl',hzl] at hu hx
       split at hx
       .rename_i hj
        rw [if_pos hj] at hu
        split at hx
        .rename_i hj';rw [if_pos hj'] at hu;exact hz.rep j u x hu hx
        .cases hx
       .rename_i hj
        rw [if_neg hj] at hu
        split at hx
        .rename_i hj';rw [if_pos hj'] at hu;exact hrv.rep _ u x hu hx
        .rename_i hj';rw [if_neg hj'] at hu;exact hz.rep _ u x hu hx)
      (by
       rw [hfold,hs]
       intro u hu
       simp only [aV] at hu
       rcases hu with (hu|hu)|hu
       .exact h1 u (cK hu)
       .exact hv1 u hu
       .exact h1 u (eR hu)) hf
     refine ⟨cs,?_,hrep,h1',by rw [hlen];simp [rM];omega⟩
     simp only [hcond,eD,if_false]
     exact hfill
    .cases hf
end
end Go.Abs
end
section
namespace Go.Abs
section
variable {P:Program} {M0:Nat→Prop} {H:AHeap} {σ:Nat→Option Ow} {w:World}
structure Parts (M:Nat->Prop) (σ:Nat->Option Ow) (N:Nat->Prop) (w:World) (pv:List (Nat × Value)) (pd:List (Nat × D)):Prop where
 keys:pv.map (·.1)=pd.map (·.1)
 rep:∀ (j:Nat) (v:Value) (d:D),(pv.map (·.2))[j]?=some v->(pd.map (·.2))[j]?=some d->RepV M σ N w v d
theorem NC {t:TypeId}{m:List (Nat × Value)}{d:List (Nat × D)}(C:Rel M0 H σ w)(s:Parts (cX M0 H σ) σ H.al w m d)
  (j:(sE P t d H).cond):(sE P t d H).fact/\OpS P (Instr.build t m.toArray) M0 H σ w (sE P t d H).val (sE P t d H).heap:=by
 unfold sE at *
 cases n:zd P t with
 | none=>simp [n,AOut.bad] at j
 | some z =>
  cases h:bk P t with
  | none=>simp [n,h,AOut.bad] at j
  | some b =>
   simp only [n,h] at j ⊢
   cases p:AO b.place z d with
   | none=>simp [p,AOut.bad] at j
   | some out =>
    simp only [p] at j ⊢
    refine ⟨trivial,?_⟩
    obtain ⟨F,i,v,r,B,y,rfl,J,L,g⟩:=PV n
    obtain ⟨A,E⟩:=Ff (M:=cX M0 H σ) (σ:=σ) (N:=H.al) (w:=w) v.cells.toList g
    obtain ⟨u,f,c,q,_⟩:=Bc _ m d v.cells _ out s.keys s.rep (bS j) A E p
    refine .pure C (run_build w t m.toArray u ?_) (.agg u.toList out c.len q c.rep)
    unfold Program.built
    unfold bk at h
    rw [r] at h
    cases F<;>simp at h
    case array n' e =>
     obtain ⟨G,o,rfl⟩:=h
     simp only [B,r,y,o]
     exact f
    case struct fs =>
     obtain ⟨l,I,rfl⟩:=h
     have K:(BK.st l).place=λx=>l[x]?:=rfl
     simp_all
theorem r7 (sz:Nat):∀ (n:Nat) (l:List D),(qI sz n l).length=n
 | 0,_=>rfl
 | n+1,l=>by simp [qI,r7 sz n]
theorem Eo (sz:Nat):∀ (n:Nat) (l:List D),l.length=n * sz->(qI sz n l).flatten=l
 | 0,l,h=>by simp at h;subst h;rfl
 | n+1,l,h=>by
  simp only [qI,d9]
  rw [Eo sz n _ (by rw [jA,h,Nat.add_mul];omega),List.take_append_drop]
theorem Dw (sz:Nat):∀ (n:Nat) (l:List D),l.length=n * sz->∀ c∈qI sz n l,c.length=sz
 | 0,l,h,c,hc=>by cases hc
 | n+1,l,h,c,hc=>by
  simp only [qI,bP] at hc
  rw [Nat.add_mul] at h
  rcases hc with rfl|hc
  .rw [bQ];omega
  .exact Dw sz n _ (by rw [jA];omega) c hc
theorem Dx {nid:Nat}(S:¬ H.al nid){m:Bool}{t:TypeId}{n:Nat}{Y:List (Nat × Value)}{y:List (Nat × D)}(hR:Rel M0 H σ w)(hp:Parts (cX M0 H σ) σ H.al w Y y)
  (V:(iH P nid m t n y H).cond):(iH P nid m t n y H).fact/\OpS P (Instr.buildSlice t n Y.toArray) M0 H σ w (iH P nid m t n y H).val (iH P nid m t n y H).heap:=by
 unfold iH at *
 cases hs:sl P t with
 | none=>simp [hs,AOut.bad] at V
 | some s =>
  simp only [hs] at V ⊢
  cases hf:AO (λi=>some (i * s.sz,s.sz)) (List.replicate n s.z).flatten y with
  | none=>simp [hf,AOut.bad] at V
  | some out =>
   simp only [hf] at V ⊢
   obtain ⟨O,i,z,hi,hz,E,a4,a5,a6,A,R,Q,a0⟩:=qU hs
   have K:n<=1000/\s.sz<=1000/\(y.all λp=>p.2.cells.all D.cell)=true:=by cases m<;>exact V
   obtain ⟨hn,a1,a2⟩:=K
   obtain ⟨hr,h1⟩:=pJ (M:=cX M0 H σ) (σ:=σ) (N:=H.al) (w:=w) z n aD (by rw [<- A];exact a0)
   rw [<- A] at hr
   obtain ⟨v,a,g,X,T⟩:=Bc (λi=>some (i * s.sz,s.sz)) Y y (madeCells z.cells (n * z.cells.size)) _ out hp.keys hp.rep (bS a2) hr h1 hf
   have I:out.length=n * s.sz:=by rw [T,lI,R]
   have U:v.size=n * s.sz:=by have:=g.len;simp at this;omega
   have Z:¬ n * s.sz > 2 ^ 24:=by
    have:=mE hn a1
    omega
   have B:(Instr.buildSlice t n Y.toArray).run P w=.ok (.slice (some ⟨w.heap.size,0,none⟩) n n) (w.alloc (.cells v s.e)):=by
    by_cases h0:n * s.sz=0
    .have c:(Array.range (n * s.sz)).map (λx=>(#[]:Array Value)[x % (#[]:Array Value).size]!)=madeCells z.cells (n * z.cells.size):=by
      rw [Q];simp [madeCells,h0,Array.range_zero']
     rw [<- c] at a
     simp [Instr.buildSlice,run_underlying O,sizeOf,typeInfo,hi,E,h0] at a ⊢
     simp [a,newRow]
    .have c:(Array.range (n * s.sz)).map (λx=>z.cells[x % z.cells.size]!)=madeCells z.cells (n * z.cells.size):=by
      simp [madeCells,Q]
     rw [<- c] at a
     have q:¬ 16777216<n * s.sz:=aD
     simp [Instr.buildSlice,run_underlying O,sizeOf,typeInfo,hi,E,h0,q,zeroValue,hz,a,newRow]
   have J:=Eo s.sz n out I
   have C:∀ b,b<w.heap.size->(w.alloc (.cells v s.e)).heap[b]?=w.heap[b]?:=λ_ W=>heap_alloc_old _ _ W
   cases m with
   | false =>
    simp only [eD,if_false]
    obtain ⟨a3,hS,hK⟩:=Rel.grow hR (w':=w.alloc (.cells v s.e)) rfl rfl rfl aF C
    refine ⟨trivial,_,_,σ,B,a3,?_,hS,hK⟩
    have hv:=RepV.list (M:=cX M0 H σ) (σ:=σ) (N:=H.al) (w:=w.alloc (.cells v s.e)) ⟨w.heap.size,0,none⟩ n s.sz v.toList (qI s.sz n out) (by simp [r7]) (by simp only [maxLen];omega)
     (Dw s.sz n out I) (by rw [J];exact g.len) X (λj u O=>⟨by
      rintro (hm|⟨i,k,o,_,_,ho,W⟩)
      .exact absurd (hR.m0 _ hm) (nQ _)
      .exact absurd (hR.lt i o _ ho W).1 (nQ _),by
      rw [jG,d8,Hg];simpa using O⟩) (λj u d O hd=>by rw [J] at hd;exact (g.rep j u d O hd).keep hK)
    rw [r7] at hv
    exact hv
   | true =>
    simp only [if_true]
    have G:=Rel.push hR nid S (w':=w.alloc (.cells v s.e)) rfl rfl rfl aF C ⟨s.e,s.sz,qI s.sz n out,false⟩ ⟨n,.slice (some ⟨w.heap.size,0,none⟩) n n,s.sz,s.e⟩
     (λb W=>by simp [Ow.block,Value.ownBlock] at W;omega) (by simp [r7]) rfl rfl (Dw s.sz n out I) v.toList
     (by simp only [r7];exact World.ownsRow_lit w v n (eJ _) (by simp only [maxLen];omega) U) X (by simp only;rw [J];exact g)
    refine ⟨trivial,_,_,_,B,G.1,.own _ nid n (.inl rfl) rfl λo ho=>?_,G.2.1,G.2.2⟩
    simp at ho;subst ho;exact .inr ⟨rfl,rfl⟩
theorem Qc {v:Value}{e n:Nat}{k:Blk}(t:Rel M0 H σ w)(p:RepV (cX M0 H σ) σ H.al w v (.own e n))(s:H.get e=some k)(r:k.es.length=n) :
  (v=.slice none 0 0/\n=0)\/∃ b cap,v=.slice (some ⟨b,0,none⟩) n cap/\n<=cap/\cap<=maxLen/\∃ o,σ e=some o/\o.block=some b/\o.esz=k.sz/\o.ver=n:=by
 obtain ⟨o,j,l⟩:=t.lies e k s
 obtain ⟨z,c,m,i⟩:=l.row
 cases p
 rename_i B A h
 rcases h o j with D|⟨u,rfl⟩
 .have:=l.ver;omega
 .rcases c.2 with ⟨d,C⟩|⟨g,cap,x,a,_,_,q,f,_⟩
  .exact .inl ⟨d,aD⟩
  .exact .inr ⟨g,cap,by rw [a,r],aD,f,o,j,by simp [Ow.block,a,Value.ownBlock],l.sz,u.symm⟩
theorem RH {t ty:TypeId}{l:Value}{x:D}(f:Rel M0 H σ w)(g:RepV (cX M0 H σ) σ H.al w l x)(d:(ES P t x H).cond) :
  (ES P t x H).fact/\OpS P (Builtin.len_ #[t] ty #[l]) M0 H σ w (ES P t x H).val (ES P t x H).heap:=by
 unfold ES at *
 split at d
 .rename_i e c
  split at d
  .cases g
   exact ⟨trivial,.pure f (by simp [Builtin.len_,run_underlying c,goInt]) (.int _ _)⟩
  .rename_i s
   rcases rT g with ⟨rfl,rfl⟩|⟨u,j,p,o,rfl,_,_,_,i,h,_⟩
   .exact ⟨by simp,.pure f (by simp [Builtin.len_,run_underlying c,goInt]) (.int _ _)⟩
   .refine ⟨?_,.pure f (by simp [Builtin.len_,run_underlying c,goInt]) (.int _ _)⟩
    simp only [maxLen] at h;simp only;omega
  .rename_i r n
   split at d
   .rename_i k m
    rcases Qc f g m d with ⟨rfl,rfl⟩|⟨b,j,rfl,i,h,_⟩
    .exact ⟨by simp,.pure f (by simp [Builtin.len_,run_underlying c,goInt]) (.int _ _)⟩
    .refine ⟨?_,.pure f (by simp [Builtin.len_,run_underlying c,goInt]) (.int _ _)⟩
     simp only [maxLen] at h;simp only;omega
   .exact d.elim
  .exact d.elim
 .rename_i c
  split at d
  .cases g
   exact ⟨trivial,.pure f (by simp [Builtin.len_,run_underlying c,goInt]) (.int _ _)⟩
  .exact d.elim
 .rename_i n e c
  refine ⟨trivial,.pure f ?_ (.int _ _)⟩
  simp [Builtin.len_,run_underlying c,goInt]
 .exact d.elim
end
end Go.Abs
end
section
namespace Go.Abs
section
variable {P:Program} {M0:Nat→Prop} {H:AHeap} {σ:Nat→Option Ow} {w:World}
theorem TP {M:Nat->Prop}{N:Nat->Prop}{v:Value}{cs:List D}(c:Nat)(h:RepV M σ N w v (.adr cs)) :
  ∃ a,v=.pointer (some a)/\RepV M σ N w (.pointer (some (a.add c))) (.adr (cs.drop c)):=by
 obtain ⟨i,f,rfl,b,g,e⟩:=KX h
 refine ⟨i,rfl,.adr _ (f.drop c) _ (by simp [b.len]) (λu hu=>g u (eR hu)) (λj u hu=>?_) λj u d hu hd=>?_⟩
 .rw [bZ] at hu
  obtain ⟨l,k⟩:=e _ u hu
  rw [gX,CC]
  grind
 .rw [bZ] at hu hd
  exact b.rep _ u d hu hd
theorem P9 {v:Value}{c ver i a:Nat}{k:Blk}(g:Rel M0 H σ w)(d:RepV (cX M0 H σ) σ H.al w v (.ptr c ver i a))(f:H.get c=some k)(j:k.es.length=ver) :
  ∃ b o,σ c=some o/\o.block=some b/\v=.pointer (some ⟨b,i * o.esz+a,none⟩)/\H.al c/\o.ver=ver:=by
 obtain ⟨o,m,l⟩:=g.lies c k f
 cases d
 rename_i p n h
 have e:o.ver=k.es.length:=l.ver
 grind
theorem Et {v:Value}{x:D}{c:Nat}(l:Rel M0 H σ w)(h:RepV (cX M0 H σ) σ H.al w v x)(e:(dW x c H).cond) :
  ∃ a,v=.pointer (some a)/\RepV (cX M0 H σ) σ H.al w (.pointer (some (a.add c))) (dW x c H).val/\(dW x c H).heap=H/\(dW x c H).fact:=by
 unfold dW at *
 cases x<;>try (exact e.elim)
 case adr cs =>
  obtain ⟨a,s,r⟩:=TP c h
  grind
 case ptr id ver i o =>
  cases f:H.get id with
  | none=>simp [f,AOut.bad] at e
  | some k =>
   simp only [f] at e ⊢
   obtain ⟨b,n,p,q,rfl,m,j⟩:=P9 l h f e
   refine ⟨_,rfl,?_,trivial,trivial⟩
   rw [jG]
   refine .ptr _ id ver i (o+c) m rfl λo' ho'=>?_
   grind
theorem EM {t:TypeId}{z:Value}{x:D}{f:Nat}(C:Rel M0 H σ w)(F:RepV (cX M0 H σ) σ H.al w z x)(k:(gZ P t x f H).cond) :
  (gZ P t x f H).fact/\OpS P (Instr.fieldAt t z f) M0 H σ w (gZ P t x f H).val (gZ P t x f H).heap:=by
 unfold gZ at *
 cases m:bk P t with
 | none=>simp [m,AOut.bad] at k
 | some b =>
  cases b with
  | ar p=>simp [m,AOut.bad] at k
  | st l =>
   simp only [m] at k ⊢
   cases B:l[f]? with
   | none=>simp [B,AOut.bad] at k
   | some q =>
    obtain ⟨g,p⟩:=q
    simp only [B] at k ⊢
    obtain ⟨a,rfl,o,J,j⟩:=Et C F k.1
    refine ⟨j,?_⟩
    rw [J]
    unfold bk at m
    cases u:P.underlying t with
    | none=>simp [u] at m
    | some L =>
     rw [u] at m
     cases L<;>simp at m
     rename_i K
     have I:∃ d,K[f]?=some d/\∃ i,P.info? d.type=some i/\g=d.offset/\p=i.size:=by
      have E:∀ (d:List Field) (l:List (Nat × Nat)) (f:Nat),d.mapM (λf=>(P.info? f.type).map λi=>(f.offset,i.size))=some l->l[f]?=some (g,p) ->
        ∃ x,d[f]?=some x/\∃ i,P.info? x.type=some i/\g=x.offset/\p=i.size:=by
       intro d
       induction d with
       | nil=>intro l f h A;simp at h;subst h;simp at A
       | cons a d ih =>
        intro l f h A
        simp only [List.mapM_cons,Option.bind_eq_bind,Option.pure_def] at h
        cases s:P.info? a.type with
        | none=>simp [s] at h
        | some i =>
         cases G:d.mapM (λf=>(P.info? f.type).map λi=>(f.offset,i.size)) with
         | none=>simp [s,G] at h
         | some rest =>
          grind
      grind
     obtain ⟨d,y,i,s,rfl,rfl⟩:=I
     have v:i.size≠0:=by have:=k.2;omega
     exact .pure C (by simp [Instr.fieldAt,run_underlying u,y,Instr.sureAddr,fieldPlace,sizeOf,typeInfo,s,v]) o
theorem NN {t:TypeId}{n sz:Nat}(h:PO P t=some (n,sz)):∃ e i,P.underlying t=some (.array n e)/\P.info? e=some i/\i.size=sz:=by grind [PO]
theorem EK {t:TypeId}{W vi:Value}{x i:D}(R:Rel M0 H σ w)(Q:RepV (cX M0 H σ) σ H.al w W x)(hi:RepV (cX M0 H σ) σ H.al w vi i)(B:(gY P t x i H).cond) :
  (gY P t x i H).fact/\OpS P (Instr.indexAt t W vi) M0 H σ w (gY P t x i H).val (gY P t x i H).heap:=by
 unfold gY at *
 cases i<;>try (exact B.elim)
 rename_i kd n
 cases hi
 have L:∀ (x:D),RepV (cX M0 H σ) σ H.al w W x->(match PO P t with
   | some (len,sz)=>(⟨(dW x (n.toNat * sz) H).cond/\0<=n/\n<len,(dW x (n.toNat * sz) H).fact,(dW x (n.toNat * sz) H).val,(dW x (n.toNat * sz) H).heap⟩:AOut)
   | none=>AOut.bad H).cond->(match PO P t with
   | some (len,sz)=>(⟨(dW x (n.toNat * sz) H).cond/\0<=n/\n<len,(dW x (n.toNat * sz) H).fact,(dW x (n.toNat * sz) H).val,(dW x (n.toNat * sz) H).heap⟩:AOut)
   | none=>AOut.bad H).fact/\OpS P (Instr.indexAt t W (.int kd n)) M0 H σ w (match PO P t with
   | some (len,sz)=>(⟨(dW x (n.toNat * sz) H).cond/\0<=n/\n<len,(dW x (n.toNat * sz) H).fact,(dW x (n.toNat * sz) H).val,(dW x (n.toNat * sz) H).heap⟩:AOut)
   | none=>AOut.bad H).val (match PO P t with
   | some (len,sz)=>(⟨(dW x (n.toNat * sz) H).cond/\0<=n/\n<len,(dW x (n.toNat * sz) H).fact,(dW x (n.toNat * sz) H).val,(dW x (n.toNat * sz) H).heap⟩:AOut)
   | none=>AOut.bad H).heap:=by
  intro x Q B
  cases ha:PO P t with
  | none=>simp [ha,AOut.bad] at B
  | some q =>
   obtain ⟨len,sz⟩:=q
   simp only [ha] at B ⊢
   obtain ⟨h1,K,S⟩:=B
   obtain ⟨a,rfl,A,hh,N⟩:=Et R Q h1
   refine ⟨N,?_⟩
   rw [hh]
   obtain ⟨e,i,h,a3,p⟩:=NN ha
   exact .pure R (by simp [Instr.indexAt,run_underlying h,asIntOf,Instr.sureAddr,K,S,sizeOf,typeInfo,a3,p]) A
 cases x<;>try (exact L _ Q B)
 case list es =>
  cases G:sl P t with
  | none=>simp [G,AOut.bad] at B
  | some s =>
   simp only [G] at B ⊢
   obtain ⟨⟨h0,h1⟩,K⟩:=B
   obtain ⟨h,ti,z,M,hz,p,_,a0,_⟩:=qU G
   obtain ⟨q,rfl⟩:=eB h0
   simp only [Int.toNat_natCast] at K ⊢
   have I:q<es.length:=aD
   have J:es[q]?=some es[q]:=aA I
   rw [J] at K ⊢
   simp only [Option.getD_some] at K ⊢
   refine ⟨trivial,?_⟩
   rcases rT Q with ⟨rfl,rfl⟩|⟨ad,a5,sz,xs,rfl,A,Z,O,a2,hm,E⟩
   .simp at I
   .have U:sz=s.sz:=(E _ (aC I)).symm.trans K
    subst U
    have a4:=kQ es E
    have Y:q * s.sz+s.sz<=xs.length:=by
     rw [A.len,a4]
     have:(q+1) * s.sz<=es.length * s.sz:=eQ _ I
     rw [Nat.add_mul] at this;omega
    refine .pure R (v:=.pointer (some (ad.add (q * s.sz)))) (by simp [Instr.indexAt,run_underlying h,asIntOf,I,sizeOf,typeInfo,M,p]) ?_
    refine .adr _ ((xs.drop (q * s.sz)).take s.sz) _ (by simp only [bQ,jA];omega) (λu h=>Z u (eR (cK h))) (λj u h=>?_) λj u d h hd=>?_
    .rw [bU] at h
     split at h
     .rw [bZ] at h
      obtain ⟨h5,h6⟩:=O _ u h
      rw [gX,CC]
      exact ⟨h5,h6⟩
     .cases h
    .rw [bU] at h
     split at h
     .rename_i hj
      rw [bZ] at h
      exact A.rep _ u d h (by rw [l8 es q _ E J j hj];exact hd)
     .cases h
 case own id m =>
  cases G:sl P t with
  | none=>simp [G,AOut.bad] at B
  | some s =>
   cases X:H.get id with
   | none=>simp [G,X,AOut.bad] at B
   | some k =>
    simp only [G,X] at B ⊢
    obtain ⟨⟨h0,h1⟩,K,S⟩:=B
    obtain ⟨h,ti,z,M,hz,p,_,a0,_⟩:=qU G
    obtain ⟨q,rfl⟩:=eB h0
    simp only [Int.toNat_natCast] at S ⊢
    have I:q<k.es.length:=aD
    have a1:q<m:=aD
    refine ⟨trivial,?_⟩
    obtain ⟨o,ho,l⟩:=R.lies id k X
    have V:o.esz=s.sz:=by
     rw [aA I] at S
     simp only [Option.getD_some] at S
     exact (l.esz _ (aC I)).symm.trans S
    have hN:H.al id:=by cases Q;assumption
    rcases Qc R Q X K with ⟨rfl,rfl⟩|⟨b,a5,rfl,a2,hm,o',F,hb,_,T⟩
    .omega
    .rw [ho] at F;cases F
     refine .pure R (v:=.pointer (some ⟨b,q * s.sz,none⟩)) (by simp [Instr.indexAt,run_underlying h,asIntOf,a1,sizeOf,typeInfo,M,p,jG]) ?_
     refine .ptr _ id m q 0 hN rfl λo' F=>?_
     rw [ho] at F;cases F
     exact .inr ⟨T.symm,b,hb,by rw [V];simp⟩
theorem Mq {i k j:Value}{c a b:D}(g:Rel M0 H σ w)(e:RepV (cX M0 H σ) σ H.al w i c)(m:RepV (cX M0 H σ) σ H.al w k a)(l:RepV (cX M0 H σ) σ H.al w j b)
  (f:(uC c a b H).cond):(uC c a b H).fact/\OpS P (do pure (if <- asBool i then k else j)) M0 H σ w (uC c a b H).val (uC c a b H).heap:=by
 unfold uC at *
 split at f
 .cases e;cases m
  exact ⟨trivial,.pure g (by simp [asBool]) (.bool _)⟩
 .cases e;cases m
  rename_i h
  have:=h f
  cases this
  exact ⟨trivial,.pure g (by simp [asBool]) (.bool _)⟩
 .cases e;cases l
  exact ⟨trivial,.pure g (by simp [asBool]) (.bool _)⟩
 .cases e;cases l
  rename_i h
  have:=h f
  cases this
  exact ⟨trivial,.pure g (by simp [asBool]) (.bool _)⟩
 .exact f.elim
theorem OT {l n m:Value}{c a b:D}(f:Rel M0 H σ w)(e:RepV (cX M0 H σ) σ H.al w l c)(k:RepV (cX M0 H σ) σ H.al w n a)(j:RepV (cX M0 H σ) σ H.al w m b)
  (i:(zF c a b H).cond):(zF c a b H).fact/\OpS P (do pure (if <- asBool l then n else m)) M0 H σ w (zF c a b H).val (zF c a b H).heap:=by
 unfold zF at *
 split at i
 .rename_i c a b
  cases e;cases k;cases j
  cases c<;>exact ⟨trivial,.pure f (by simp [asBool]) (.bool _)⟩
 .rename_i c a g b
  cases e;cases k;cases j
  rename_i h
  cases c with
  | true=>exact ⟨trivial,.pure f (by simp [asBool]) (.bool _)⟩
  | false =>
   have:=h (i rfl)
   cases this
   exact ⟨trivial,.pure f (by simp [asBool]) (.bool _)⟩
 .rename_i c g a b
  cases e;cases k;cases j
  rename_i h
  cases c with
  | false=>exact ⟨trivial,.pure f (by simp [asBool]) (.bool _)⟩
  | true =>
   have:=h (i rfl)
   cases this
   exact ⟨trivial,.pure f (by simp [asBool]) (.bool _)⟩
 .rename_i c g a r b
  cases e;cases k;cases j
  rename_i p h o q
  cases c with
  | false =>
   have:=q (i.2 rfl)
   cases this
   exact ⟨trivial,.pure f (by simp [asBool]) (.bool _)⟩
  | true =>
   have:=h (i.1 rfl)
   cases this
   exact ⟨trivial,.pure f (by simp [asBool]) (.bool _)⟩
 .exact Mq f e k j i
theorem IV {mx:Bool}{b:Builtin}(i:b=if mx then .max else .min){t:TypeId}{ts:Array TypeId}{d c:Value}{x y:D}(f:Rel M0 H σ w)(h:RepV (cX M0 H σ) σ H.al w d x)(g:RepV (cX M0 H σ) σ H.al w c y)
  (e:(CF mx x y H).cond):(CF mx x y H).fact/\OpS P (if mx then Builtin.max_ ts t #[d,c] else Builtin.min_ ts t #[d,c]) M0 H σ w (CF mx x y H).val (CF mx x y H).heap:=by
 unfold CF at *
 split at e
 .obtain rfl:=e
  cases h;cases g
  cases mx with
  | true=>exact ⟨trivial,.pure f (by simp [Builtin.max_,Builtin.max2]) (.int _ _)⟩
  | false=>exact ⟨trivial,.pure f (by simp [Builtin.min_,Builtin.min2]) (.int _ _)⟩
 .exact e.elim
theorem Id {s d:TypeId}{h:Value}{x:D}(j:Rel M0 H σ w)(i:RepV (cX M0 H σ) σ H.al w h x)(b:(mD P s d x H).cond) :
  (mD P s d x H).fact/\OpS P (convert s d h) M0 H σ w (mD P s d x H).val (mD P s d x H).heap:=by
 unfold mD at *
 split at b
 .rename_i p n
  split at b
  .rename_i k c
   cases i
   obtain ⟨o,m⟩:=b
   obtain ⟨r,g⟩:=fQ.1 o
   unfold A8 at c
   split at c
   .rename_i q l
    cases c
    exact ⟨trivial,.pure j (by simp [convert,run_underlying g,run_underlying l,Conv.intToInt,rK m]) (.int _ _)⟩
   .cases c
  .exact b.elim
 .split at b
  .rename_i f e
   cases i
   exact ⟨trivial,.pure j (by simp [convert,run_underlying f,run_underlying e]) (.str _)⟩
  .exact b.elim
 .exact b.elim
theorem Sr {b:UnOp}{d:Value}{x:D}(f:Rel M0 H σ w)(e:RepV (cX M0 H σ) σ H.al w d x)(c:(TQ b x H).cond) :
  (TQ b x H).fact/\OpS P (Op.unary b d) M0 H σ w (TQ b x H).val (TQ b x H).heap:=by
 unfold TQ at *
 split at c
 .cases e;exact ⟨trivial,.pure f (by simp [Op.unary]) (.bool _)⟩
 .cases e;exact ⟨trivial,.pure f (by simp [Op.unary,Op.intArith];rw [rK (bS c)]) (by simpa using RepV.int _ _)⟩
 .exact c.elim
theorem H9 {c:Value}{x:D}{i:Nat}(h:Rel M0 H σ w)(e:RepV (cX M0 H σ) σ H.al w c x)(d:(mC x i H).cond) :
  (mC x i H).fact/\OpS P (Instr.extract c i) M0 H σ w (mC x i H).val (mC x i H).heap:=by
 unfold mC at *
 cases x<;>try (exact d.elim)
 rename_i j
 cases e
 rename_i b f k
 have g:i<b.length:=by rw [f];exact d
 refine ⟨trivial,.pure h (v:=b[i]) (by simp [Instr.extract,g]) ?_⟩
 grind
theorem IR {nid:Nat}(k:¬ H.al nid){m:Bool}{t:TypeId}{x:Sem Value}(h:Rel M0 H σ w)(g:x.run P w=.ok (.slice none 0 0) w)(l:(DF P nid m t H).cond) :
  (DF P nid m t H).fact/\OpS P x M0 H σ w (DF P nid m t H).val (DF P nid m t H).heap:=by
 unfold DF at *
 cases m with
 | false=>exact ⟨trivial,.pure h g .nil⟩
 | true =>
  cases i:sl P t with
  | none=>simp [i,AOut.bad] at l
  | some s =>
   have f:=Rel.push h nid k (w':=w) rfl rfl rfl (bC _) (λ_ _=>rfl) ⟨s.e,s.sz,[],false⟩ ⟨0,.slice none 0 0,s.sz,s.e⟩ (λb hb=>by simp [Ow.block,Value.ownBlock] at hb) rfl rfl rfl aF
    [] (World.ownsRow_nil w 0 s.e s.sz) aF ⟨rfl,λj u d hu=>by simp at hu⟩
   refine ⟨trivial,_,w,_,g,f.1,.own _ nid 0 (.inl rfl) rfl λo ho=>?_,f.2.1,f.2.2⟩
   grind
theorem Gp {d:Value}{x:D}(j:Rel M0 H σ w)(g:RepV (cX M0 H σ) σ H.al w d x)(c:(jI x H).cond) :
  ∃ a,d=.pointer (some a)/\(jI x H).fact/\RepV (cX M0 H σ) σ H.al w d (jI x H).val/\(jI x H).heap=H:=by
 unfold jI at *
 cases x<;>try (exact c.elim)
 case adr cs =>
  obtain ⟨r,l,rfl,_⟩:=KX g
  grind
 case ptr id ver i o =>
  cases e:H.get id with
  | none=>simp [e,AOut.bad] at c
  | some k =>
   simp only [e] at c ⊢
   obtain ⟨b,m,n,p,rfl,q,h⟩:=P9 j g e c
   grind
end
end Go.Abs
end
