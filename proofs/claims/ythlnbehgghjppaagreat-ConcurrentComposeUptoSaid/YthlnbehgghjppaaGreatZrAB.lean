/- The abstraction layer, part E: operations that write or make -/
import Derived.Test.YthlnbehgghjppaaGreatZrAA
import Derived.Lib.AppendZerosOnto
set_option linter.unusedVariables false
set_option linter.unusedSimpArgs false
section
namespace Go.Abs
section
variable {P:Program} {M0:Nat→Prop} {H:AHeap} {σ:Nat→Option Ow} {w:World}
theorem HL (o:Ow)(a:Nat)(h:σ a=some o):(λi=>if i=a then some o else σ i)=σ:=by grind
theorem FT {n:Nat}:∀ (es:Xa1) (i:Nat) (c c':Xa2),(∀ c∈es,c.length=n)->es[i]?=some c->c'.length=n ->
  (es.set i c').flatten=es.flatten.take (i * n)++c'++es.flatten.drop (i * n+n)
 | [],i,c,c',_,h,_=>by simp at h
 | e :: es,0,c,c',hl,h,hc'=>by
  have he:=hl e eG;simp [he]
 | e :: es,i+1,c,c',hl,h,hc'=>by
  have he:=hl e eG;simp at h;have ih:=FT es i c c' (λc hc=>hl c (by simp [hc])) h hc';simp only [Fd,eQ,ih];have e1:(i+1) * n=e.length+i * n:=by rw [Nat.add_mul,he];omega
  rw [e1,Bw,List.drop_append];simp only [List.append_assoc];rw [show List.take (e.length+i * n) e=e by rw [aH];omega,(bZ:e.length+i * n - e.length=i * n),
   show List.drop (e.length+i * n+n) e=[] by rw [iT];omega,(bZ:e.length+i * n+n - e.length=i * n+n)]
  simp
theorem jX {α:Type}(a b c:List α)(j:Nat):(a++b++c)[j]?=if j<a.length then a[j]? else if j<a.length+b.length then b[j - a.length]? else c[j - a.length - b.length]?:=by grind
theorem Bt {M:Nat->Prop}{N:Nat->Prop}{v:Value}{d:D}(h:RepV M σ N w v d)(f:d.cells.all D.cell=true) :
    RepL M σ N w v.cells.toList d.cells/\∀ u∈v.cells.toList,u.oneCell'=true:=by
  cases d with
  | agg ds =>
    cases h
    rename_i g a e c;exact ⟨⟨by simpa [Value.cells,D.cells] using e,λj u x hu hx=>c j u x (by simpa [Value.cells] using hu) (by simpa [D.cells] using hx)⟩,by simpa [Value.cells] using a⟩
  | _ =>
    first
    | (simp [D.cells,D.cell] at f;done)
    | (have a:=h.dr rfl
       have b:v.cells=#[v]:=by cases v<;>first|rfl|(simp [Value.oneCell'] at a)
       rw [b];refine ⟨⟨by simp [D.cells],λj u x hu hx=>?_⟩,by simpa using a⟩;cases j with
       | zero=>simp [D.cells] at hu hx;subst hu;subst hx;exact h
       | succ j=>simp at hu)
theorem LD {M:Nat->Prop}{N:Nat->Prop}{v:Value}{d:D}(h:RepV M σ N w v d)(a:d.cells.all D.cell=true):v.cells.size=d.cells.length:=by
 have:=(Bt h a).1.len;simpa using this
def OpU (P:Program)(x:Sem Unit)(M0:Nat->Prop)(H:AHeap)(σ:Nat->Option Ow)(w:World)(H':AHeap):Prop :=
 ∃ w' σ',x.run P w=.ok () w'/\Rel M0 H' σ' w'/\Stp σ w σ' w'/\Keeps (dD M0 H σ) σ H.H w (dD M0 H' σ') σ' H'.H w'
theorem NM {t:TypeId}{va r:Value}{x v:D}(hR:Rel M0 H σ w)(hx:RepV (dD M0 H σ) σ H.H w va x)(hv:RepV (dD M0 H σ) σ H.H w r v)(Y:(nI P t x v H).cond) :
  OpU P (Instr.storeAt t va r) M0 H σ w (nI P t x v H).heap:=by
 unfold nI at *;cases x<;>try (simp [AOut.bad] at Y;done)
 rename_i id ver i a;cases V:H.get id with
 | none=>simp [V,AOut.bad] at Y
 | some k =>
  cases s:k.T[i]? with
  | none=>simp [V,s,AOut.bad] at Y
  | some c =>
   simp only [V,s] at Y ⊢;obtain ⟨a8,b5,a2,I,z,b6⟩:=Y;obtain ⟨ti,Q⟩:=lT.1 I;obtain ⟨o,ho,l⟩:=hR.ak id k V;obtain ⟨E,S,N,p⟩:=l.row;have a4:i<k.T.length:=(aK.1 s).1;have b2:c.length=o.J:=l.J c (aM s);cases hx
   rename_i hN h1 h;rcases h o ho with C|⟨b8,b,hb,rfl⟩
   .have:=l.ai;omega
   .obtain ⟨a3,O⟩:=Bt hv z;have a1:=LD hv z;have F:E.length=k.T.length * o.J:=p.len.trans (mI k.T l.J);have a0:i * o.J+o.J<=E.length:=by
     rw [F];have:(i+1) * o.J<=k.T.length * o.J:=fL _ a4;rw [Nat.add_mul] at this;omega
    rcases S.2 with ⟨T,_⟩|⟨g,b4,n,B,b3,hg,U,b1,b0,G⟩
    .simp [Ow.block,T,Value.ownBlock] at hb
    .have a7:g=b:=by simpa [Ow.block,B,Value.ownBlock] using hb
     subst a7;have b7:k.T.length * o.J<=n.size:=by rw [b0];exact fL _ U
     have R:=run_storeCells_at (P:=P) g (i * o.J+a) k.ty r.cells.toList 0 n w hg (by simp;omega) O;simp only [u5] at R;have y:r.cells.size=ti.size:=by rw [a1,a2];simp [Program.cellsOf,Q]
     refine ⟨w.setRow g (n.toList.take (i * o.J+a)++r.cells.toList++n.toList.drop (i * o.J+a+r.cells.toList.length)).toArray,σ,?_,?_⟩
     .simp [Instr.storeAt,Instr.sureAddr,storeVar,sizeOf,typeInfo,Q,y];simpa [y] using R
     .have A:(uB c a v.cells).length=o.J:=by simp [uB];omega
      have hp:=Rel.put hR V a8 ho { k with T:=k.T.set i (uB c a v.cells) } o (w':=w.setRow g (n.toList.take (i * o.J+a)++r.cells.toList++n.toList.drop (i * o.J+a+r.cells.toList.length)).toArray)
       ⟨rfl,rfl,rfl,by simp,λq _ hq=>setRow_other w g q _ (λe=>hq (by rw [e,hb]))⟩ (λb' hb'=>.inl hb') (.inl rfl) (eL l.ai) l.ty l.Z
       (λd m=>by
        rcases oE m with C|C
        .exact l.J d C
        .rw [C,A])
       (E.take (i * o.J+a)++r.cells.toList++E.drop (i * o.J+a+r.cells.toList.length))
       ⟨by simp [F];omega,.inr ⟨g,b4,_,by simpa using B,b3,setRow_heap w g n _ k.ty _ hg,by simpa using U,b1,by simp;omega,by
        have c0:r.cells.toList.length=r.cells.size:=eG;simp only [iU];rw [<- G];apply f9;intro j;simp only [b9,jX,dF,cF,fY];by_cases hj:j<k.T.length * o.J
        .rw [if_pos hj];have m1:min (i * o.J+a) n.size=i * o.J+a:=bZ;have M:min (i * o.J+a) (min (k.T.length * o.J) n.size)=i * o.J+a:=bZ;rw [m1,M];split
         .first|rfl|rw [if_pos hj]
         .split
          .rfl
          .first|rfl|rw [if_pos bZ]
        .rw [if_neg hj];have M:min (i * o.J+a) (min (k.T.length * o.J) n.size)=i * o.J+a:=bZ;rw [M,if_neg bZ,if_neg bZ,if_neg bZ]⟩⟩
       (λu f=>by
        simp only [bE] at f;rcases f with (f|f)|f
        .exact N u (dL f)
        .exact O u f
        .exact N u (fM f))
       ⟨by rw [mI _ (λd m=>by
          rcases oE m with C|C
          .exact l.J d C
          .rw [C,A])];simp [F];omega,λj u d f m=>by
        simp only at m;rw [FT k.T i c _ l.J s A] at m;have a9:k.T.flatten.length=E.length:=p.len.symm;simp only [jX,dF,b9,cF,a9,A,fY] at f m;have m1:min (i * o.J+a) E.length=i * o.J+a:=bZ;have M:min (i * o.J) E.length=i * o.J:=bZ;rw [m1] at f;rw [M] at m;split at m
        .rename_i X;rw [if_pos bZ,if_pos bZ] at f;try rw [if_pos X] at m
         exact p.ad j u d f m
        .rename_i X;split at m
         .rename_i a6;simp only [uB,jX,dF,b9,cF] at m;have m3:min a c.length=a:=bZ;rw [m3] at m;split at m
          .rename_i W;rw [if_pos bZ,if_pos bZ] at f;try rw [if_pos W] at m
           refine p.ad j u d f ?_;have:=n6 k.T i c l.J s (j - i * o.J) bZ;rw [(bZ:i * o.J+(j - i * o.J)=j)] at this;rw [this,m]
          .rename_i W;split at m
           .rename_i a5;rw [if_neg bZ,if_pos bZ] at f;refine a3.ad (j - (i * o.J+a)) u d f ?_;rw [<- m];congr 1;omega
           .rename_i a5;rw [if_neg bZ,if_neg bZ] at f;have e1:i * o.J+a+r.cells.size+(j - (i * o.J+a) - r.cells.size)=j:=bZ;rw [e1] at f;refine p.ad j u d f ?_;have:=n6 k.T i c l.J s (j - i * o.J) bZ;rw [(bZ:i * o.J+(j - i * o.J)=j)] at this;rw [this,<- m];congr 1;omega
         .rename_i a6;rw [if_neg bZ,if_neg bZ] at f;have e1:i * o.J+a+r.cells.size+(j - (i * o.J+a) - r.cells.size)=j:=bZ;rw [e1] at f;refine p.ad j u d f ?_;rw [<- m];congr 1;omega⟩
      simp only [HL o id ho] at hp;exact hp
end
end Go.Abs
end
section
namespace Go.Abs
section
variable {P:Program} {M0:Nat→Prop} {H:AHeap} {σ:Nat→Option Ow} {w:World}
theorem tC {t:TypeId}{s:SlI}(h:sl P t=some s) :
  P.underlying t=some (.slice s.e)/\∃ i z,P.info? s.e=some i/\i.zero=some z/\i.size=s.Z/\i.bytes=s.et/\0<s.Z/\s.et<=4096/\s.z=z.cells.toList.map rQ/\s.z.length=s.Z/\z.cells.size=s.Z/\s.z.all D.cell=true:=by
 unfold sl at h;split at h
 .rename_i e f;split at h
  .rename_i i g;split at h
   .rename_i j;obtain ⟨l,k,c,b⟩:=j;cases h
    cases a:i.zero with
    | none=>simp [Ad,a] at c;omega
    | some z =>
     refine ⟨f,i,z,g,a,rfl,rfl,l,k,by simp [Ad,a],c,?_,b⟩;simpa [Ad,a] using c
   .cases h
  .cases h
 .cases h
theorem IM {M:Nat->Prop}{N:Nat->Prop}(v:Value):RepV M σ N w v (rQ v):=by
 unfold rQ;split
 .exact .int _ _
 .exact .bool _
 .exact .str _
 .exact .nil
 .exact .nilp
 .exact .nilf
 .exact .junk _
theorem Rk {v:Value}(h:(rQ v).cell=true):v.oneCell'=true:=by
 cases v<;>first|rfl|(simp [rQ,D.cell] at h)
theorem GX {M:Nat->Prop}{N:Nat->Prop}(zs:List Value)(h:(zs.map rQ).all D.cell=true):RepL M σ N w zs (zs.map rQ)/\∀ u∈zs,u.oneCell'=true:=by
 refine ⟨⟨by simp,λj u d hu hd=>?_⟩,λu hu=>?_⟩
 .rw [aP,hu] at hd;simp at hd;subst hd;exact IM u
 .simp only [List.all_map,b6,Function.comp] at h;exact Rk (h u hu)
theorem uK {M:Nat->Prop}{N:Nat->Prop}{v:Value}{es:Xa1}(h:RepV M σ N w v (.list es)) :
  (v=.slice none 0 0/\es=[])\/∃ ad cap sz xs,v=.slice (some ad) es.length cap/\RepL M σ N w xs es.flatten/\(∀ u∈xs,u.oneCell'=true) /\
   (∀ j u,xs[j]?=some u->¬ M ad.block/\w.cell? (ad.add j)=some u)/\es.length<=cap/\cap<=maxLen/\∀ c∈es,c.length=sz:=by
 generalize e:D.list es=d at h;cases h with
 | listN=>cases e;exact .inl ⟨rfl,rfl⟩
 | list ad cap sz xs es k g b i l a f=>cases e;exact .inr ⟨ad,cap,sz,xs,rfl,⟨i,f⟩,l,a,k,g,b⟩
 | _=>cases e
theorem Pm {v:Value}{x:D}{es:Xa1}(y:Rel M0 H σ w)(i:RepV (dD M0 H σ) σ H.H w v x)(a:qT H x=some es) :
  (v=.slice none 0 0/\es=[])\/∃ ad cap xs,v=.slice (some ad) es.length cap/\RepL (dD M0 H σ) σ H.H w xs es.flatten/\(∀ u∈xs,u.oneCell'=true) /\
   (∀ j u,xs[j]?=some u->w.cell? (ad.add j)=some u)/\es.length<=cap/\cap<=maxLen:=by
 cases x<;>simp only [qT] at a<;>try (cases a;done)
 case nil=>cases a;cases i;exact .inl ⟨rfl,rfl⟩
 case ne =>
  cases a;cases i;rename_i ad cap t
  exact .inr ⟨ad,cap,[],rfl,⟨rfl,λj u d hu=>by simp at hu⟩,by simp,λj u hu=>by simp at hu,d9 _,t⟩
 case list es' =>
  cases a
  rcases uK i with h|⟨ad,cap,C,xs,z,M,L,K,J,I,_⟩
  .exact .inl h
  grind
 case own id n =>
  cases q:H.get id with
  | none=>simp [q] at a
  | some k =>
   simp only [q] at a;split at a
   .rename_i F;cases a
    obtain ⟨o,s,l⟩:=y.ak id k q;obtain ⟨xs,c,m,e⟩:=l.row;cases i
    rename_i G z h;rcases h o s with N|⟨_,rfl⟩
    .have:=l.ai;omega
    .rcases c.2 with ⟨f,A⟩|⟨g,cap,B,b,_,_,p,r,_⟩
     .exact .inl ⟨f,bQ A⟩
     .exact .inr ⟨⟨g,0,none⟩,cap,xs,b,e,m,c.cells (g:=g) (by simp [b,Value.ownBlock]),p,r⟩
   .cases a
theorem Nc {nid:Nat}(hn:¬ H.H nid){t t' ty:TypeId}{va vb:Value}{x y:D}(hR:Rel M0 H σ w)(hx:RepV (dD M0 H σ) σ H.H w va x)(hy:RepV (dD M0 H σ) σ H.H w vb y)
  (b0:(qT H y).isSome=true) (U:(lM P nid t t' x y H).cond):(lM P nid t t' x y H).ae/\OpS P (Builtin.append_ #[t,t'] ty #[va,vb]) M0 H σ w (lM P nid t t' x y H).val (lM P nid t t' x y H).heap:=by
 unfold lM at *;cases hs:sl P t with
 | none=>simp [hs,AOut.bad] at U
 | some s =>
  cases he:qT H y with
  | none=>rw [he] at b0;cases b0
  | some ys =>
   simp only [hs,he] at U ⊢;obtain ⟨F,i,z,hi,hz,C,M,b5,c0,c3,c2,b1,c4⟩:=tC hs;have a9:∀ m:Nat,m<=4294967296->m<=maxLen/\m * s.et<=140737488355328:=λm hm=>by
    refine ⟨by simp only [maxLen];omega,?_⟩;have:=kZ hm c0;omega
   have V:∀ (v:Value) (n:Nat) (J:List Value),w.ownsRow 0 s.e s.Z v n J->n+ys.length<=4294967296->(∀ c∈ys,c.length=s.Z)->ys.flatten.all D.cell=true ->
     ∃ G w' a,(Builtin.append_ #[t,t] ty #[v,vb]).run P w=.ok G w'/\w'.ownsRow 0 s.e s.Z G (n+ys.length) (J++a)/\w.grownBy w' v.ownBlock /\
      RepL (dD M0 H σ) σ H.H w a ys.flatten/\(∀ u∈a,u.oneCell'=true)/\(ys.length=0->G=v)/\(∀ b,G.ownBlock=some b->v.ownBlock=some b\/w.heap.size<=b):=by
    intro v n J q a1 B E;rcases Pm hR hy he with ⟨rfl,L⟩|⟨ad,Q,a,rfl,r,h1,T,c7,c6⟩
    .subst L;exact ⟨v,w,[],run_append_owned_none w 0 t ty s.e i s.Z F hi v n J q,by simpa using q,⟨rfl,rfl,rfl,bD _,λ_ _ _=>rfl⟩,⟨rfl,λj u d F=>by simp at F⟩,by simp,λ_=>rfl,λb O=>.inl O⟩
    .have hnl:a.length=ys.length * s.Z:=r.len.trans (mI ys B);by_cases h0:ys.length=0
     .have hn0:a=[]:=bQ (by rw [hnl,h0];simp);subst hn0;have f:(Builtin.append_ #[t,t] ty #[v,.slice (some ad) ys.length Q]).run P w=.ok v w:=by
       rw [h0];rcases q.2 with ⟨rfl,rfl⟩|⟨g,I,a2,rfl,_,_,a7,_⟩
       .simp [Builtin.append_,run_underlying F,sizeOf,typeInfo,hi,Builtin.lenOf,Builtin.firstCells,loadCells,loadCellsFrom]
       .simp [Builtin.append_,run_underlying F,sizeOf,typeInfo,hi,Builtin.lenOf,Builtin.firstCells,loadCells,loadCellsFrom,a7,storeCells]
      exact ⟨v,w,[],f,by simpa [h0] using q,⟨rfl,rfl,rfl,bD _,λ_ _ _=>rfl⟩,r,by simp,λ_=>rfl,λb O=>.inl O⟩
     .obtain ⟨a0,Z⟩:=a9 _ a1;obtain ⟨G,w',f,p,S,_⟩:=run_append_own (P:=P) w 0 t ty s.e i z s.Z s.et F hi hz C M b1 b5 v n J q ad ys.length Q a hnl T h1 a0 Z (d9 _);refine ⟨G,w',a,f,p,S,r,h1,λh=>absurd h h0,λb O=>?_⟩;rcases bT b w.heap.size with c5|hge
      .left
       rcases q.2 with ⟨L,hn⟩|⟨g,I,a2,hv,_,b7,a7,c8,b9,b4⟩
       .subst L;subst hn;have b3:J=[]:=bQ (eL q.1);subst b3;have hr:=run_append_nil (P:=P) w t ty s.e i z F hi hz ad ys.length Q a (by rw [hnl,C]) T bZ (by simp only [maxLen] at a0;omega) (by rw [M];have:=Z;simp only [eN] at this;omega);rw [hr] at f;cases f
        simp [Value.ownBlock] at O;omega
       .subst hv;by_cases K:n+ys.length<=I
        .have hfit':n * i.size+a.length<=a2.size:=by rw [hnl,b9,C,<- Nat.add_mul];exact fL _ K
         have hr:=run_append_room (P:=P) w t ty s.e i F hi g n I a2 b7 ad ys.length Q a (by rw [hnl,C]) T h1 K hfit';rw [hr] at f;cases f
         exact O
        .have holds:∀ j u,J[j]?=some u->w.cell? ((⟨g,0,none⟩:Addr).add j)=some u:=q.cells (g:=g) rfl;have hr:=run_append_grow (P:=P) w t ty s.e i z F hi hz ⟨g,0,none⟩ n I J (by rw [q.1,C]) holds ad ys.length Q a (by rw [hnl,C]) T bZ (by simp only [maxLen] at a0;omega) (growslice_fits bZ (by rw [M];exact Z));rw [hr] at f;cases f
         simp [Value.ownBlock] at O;omega
      .exact .inr hge
   cases x<;>try (simp [AOut.bad] at U;done)
   case nil =>
    obtain ⟨rfl,a1,B,E⟩:=U;cases hx
    obtain ⟨G,w',a,f,p,S,r,h1,_,N⟩:=V _ 0 [] (World.ownsRow_nil w 0 s.e s.Z) bZ B E;have Y:=Rel.push hR nid hn (w':=w') S.os S.tape S.output S.size (λb O=>S.block b O (by simp [Value.ownBlock])) ⟨s.e,s.Z,ys,false⟩ ⟨ys.length,G,s.Z,s.e⟩
     (λb O=>by
      rcases N b O with h|h
      .simp [Value.ownBlock] at h
      .exact h) rfl rfl rfl B a (eL p) h1 r
    refine ⟨trivial,G,w',_,f,Y.1,.own G nid ys.length (.inl rfl) ?_ λo ho=>?_,Y.2.1,Y.2.2⟩
    .rcases p.2 with ⟨rfl,_⟩|⟨g,c,cu,rfl,_⟩<;>rfl
    .simp at ho;subst ho;exact .inr ⟨rfl,rfl⟩
   case own id n =>
    cases hk:H.get id with
    | none=>simp [hk,AOut.bad] at U
    | some k =>
     simp only [hk] at U ⊢;obtain ⟨rfl,b8,R,a6,a1,a8,B,E⟩:=U;obtain ⟨o,ho,l⟩:=hR.ak id k hk;obtain ⟨J,a4,b2,A⟩:=l.row;cases hx
     rename_i c9 hN h;rcases h o ho with h'|⟨_,rfl⟩
     .have:=l.ai;omega
     .have hesz:o.J=s.Z:=l.Z.trans a8;have X:w.ownsRow 0 s.e s.Z o.val k.T.length J:=by rw [<- R,<- hesz];exact a4
      obtain ⟨G,w',a,f,p,S,r,h1,W,N⟩:=V o.val k.T.length J X bZ B E;have Y:=Rel.put hR (w':=w') hk b8 ho { k with T:=k.T++ys } ⟨k.T.length+ys.length,G,s.Z,s.e⟩ S N
       (by
        by_cases h0:ys.length=0
        .left
         have:=l.ai;have a3:=W h0;obtain ⟨ov,c1,oe,ot⟩:=o;simp only at this a3 hesz ⊢;have ht:=l.ty;simp only at ht;subst this;subst a3;subst hesz;rw [ht,R];simp [h0]
        .right;have:=l.ai;simp only;omega)
       eG (by simp [R]) (by simp [a8])
       (λc U=>by
        rcases bE.1 U with h'|h'
        .simpa [<- hesz] using l.J c h'
        .exact B c h')
       (J++a) (by simpa [R] using p) (λu F=>by
        rcases bE.1 F with h'|h'
        .exact b2 u h'
        .exact h1 u h')
       ⟨by simp only [aQ,g6,A.len,r.len],λj u d F hd=>by
        simp only [g6] at hd;by_cases hj:j<J.length
        .rw [aR hj] at F;rw [aR (by rw [<- A.len];exact hj)] at hd;exact A.ad j u d F hd
        .rw [aX bZ] at F;rw [aX (by rw [<- A.len];omega),<- A.len] at hd;exact r.ad _ u d F hd⟩
      have b6:n=k.T.length:=a6.symm;subst b6;refine ⟨trivial,G,w',_,f,Y.1,.own G id _ hN ?_ λo' a5=>?_,Y.2.1,Y.2.2⟩
      .rcases p.2 with ⟨rfl,_⟩|⟨g,c,cu,rfl,_⟩<;>rfl
      .simp at a5;subst a5;exact .inr ⟨rfl,rfl⟩
end
end Go.Abs
end
section
namespace Go.Abs
section
variable {P:Program} {M0:Nat→Prop} {H:AHeap} {σ:Nat→Option Ow} {w:World}
theorem nK (z:Xa2)(n:Nat):((List.replicate n z).flatten).length=n * z.length:=by simp_all
theorem z6 (z:Xa2)(n j:Nat)(d:0<z.length)(b:j<n * z.length):((List.replicate n z).flatten)[j]?=z[j % z.length]?:=by
 have a:=n6 (n:=z.length) (List.replicate n z) (j / z.length) z (λc hc=>by rw [lU hc])
  (by rw [wV,if_pos (Nat.div_lt_of_lt_mul (by rw [Nat.mul_comm];exact b))]) (j % z.length) (Nat.mod_lt _ d)
 rw [show j / z.length * z.length+j % z.length=j by rw [Nat.mul_comm];exact Nat.div_add_mod _ _] at a;exact a
theorem r3 {M:Nat->Prop}{N:Nat->Prop}(z:Value)(n:Nat)(e:0<z.cells.size)(h:(z.cells.toList.map rQ).all D.cell=true) :
  RepL M σ N w (madeCells z.cells (n * z.cells.size)).toList (List.replicate n (z.cells.toList.map rQ)).flatten/\∀ u∈(madeCells z.cells (n * z.cells.size)).toList,u.oneCell'=true:=by
 obtain ⟨g,i⟩:=GX (M:=M) (σ:=σ) (N:=N) (w:=w) z.cells.toList h;have a:∀ j u,(madeCells z.cells (n * z.cells.size)).toList[j]?=some u->j<n * z.cells.size/\z.cells.toList[j % z.cells.size]?=some u:=by
  intro j u b;have c:j<n * z.cells.size:=by
   have:=(aK.1 b).1;simpa [size_madeCells] using this
  refine ⟨c,?_⟩;have k:j % z.cells.size<z.cells.size:=Nat.mod_lt _ e;simp [madeCells,c] at b;grind
 refine ⟨⟨by rw [nK];simp [size_madeCells],λj u d b hd=>?_⟩,λu b=>?_⟩
 .obtain ⟨c,f⟩:=a j u b;rw [z6 _ n j (eL e) (eL c)] at hd;exact g.ad _ u d f (eL hd)
 .obtain ⟨j,c⟩:=List.mem_iff_getElem?.1 b;exact i u (aM (a j u c).2)
theorem QW {nid:Nat}(S:¬ H.H nid){t:TypeId}{F G:Value}{l c:D}(W:Rel M0 H σ w)(T:RepV (dD M0 H σ) σ H.H w F l)(B:RepV (dD M0 H σ) σ H.H w G c)
  (r:(Ea P nid t l c H).cond):(Ea P nid t l c H).ae/\OpS P (Instr.makeSlice t F G) M0 H σ w (Ea P nid t l c H).val (Ea P nid t l c H).heap:=by
 unfold Ea at *;split at r
 .rename_i s _ n _ m O;obtain ⟨rfl,A,R⟩:=r;cases T;cases B
  obtain ⟨K,i,z,V,J,j,p,L,C,a,f,v,x⟩:=tC O;obtain ⟨k,rfl⟩:=fB A;have U:k<=4294967296:=bZ;have u:i.bytes * k<=281474976710656:=by
   rw [p];have:=kZ C U;omega
  obtain ⟨w',g,h,q⟩:=run_make_full (P:=P) w 0 t s.e i z s.Z K V J j _ _ k u (by simp only [maxLen];omega) (d9 _);obtain ⟨Q,X⟩:=r3 (M:=dD M0 H σ) (σ:=σ) (N:=H.H) (w:=w) z k bZ (by rw [<- a];exact x);have y:=Rel.push W nid S (w':=w') q.os q.tape q.output q.size (λb u=>q.block b u eG) ⟨s.e,s.Z,List.replicate k s.z,false⟩ ⟨k,.slice (some ⟨w.heap.size,0,none⟩) k k,s.Z,s.e⟩
   (λb u=>by simp [Ow.block,Value.ownBlock] at u;omega) eG rfl rfl (λc r=>by rw [lU r,f])
   _ (by simpa [v] using h) X (by simpa [a] using Q)
  refine ⟨trivial,_,w',_,g,y.1,.own _ nid k (.inl rfl) rfl λo ho=>?_,y.2.1,y.2.2⟩;grind
 .exact r.elim
theorem Ak {t K ty e:TypeId}{i:TypeInfo}{z:Value}{kq kn:IntKind}(N:P.underlying t=some (.slice e))(C:P.underlying K=some (.int kn))(Z:P.info? e=some i)(hz:i.zero=some z)
  (M:z.cells.size=i.size) (O:0<i.size) (v:Value) (n:Nat) (xs:List Value) (c:w.ownsRow 0 e i.size v n xs) (m:Nat) (T:∀ u∈(madeCells z.cells (m * z.cells.size)).toList,u.oneCell'=true) (hm:n+m<=4294967296) (a9:n+m<=maxLen) (G:(n+m) * i.bytes<=140737488355328) :
  ∃ v' w',(Builtin.append_ #[t,K] ty #[v,.int kq m]).run P w=.ok v' w'/\w'.ownsRow 0 e i.size v' (n+m) (xs++(madeCells z.cells (m * z.cells.size)).toList)/\w.grownBy w' v.ownBlock /\
   (m=0->v'=v)/\(∀ b,v'.ownBlock=some b->v.ownBlock=some b\/w.heap.size<=b):=by
 have X:∀ k,madeCells z.cells (k * z.cells.size)=Builtin.zeroCells z.cells k:=λk=>rfl;have D:(madeCells z.cells (m * z.cells.size)).toList.length=m * i.size:=by simp [size_madeCells,M]
 obtain ⟨a,j⟩:∃ x,x=(madeCells z.cells (m * z.cells.size)).toList:=⟨_,rfl⟩;rw [<- j] at D ⊢;have s:(xs++a).length=(n+m) * i.size:=by rw [aQ,c.1,D,Nat.add_mul]
 have hw:IntKind.i64.wrap (m:Int)=m:=by rw [IntKind.wrap_i64];omega
 have V:¬ ((m:Int)<0):=bZ;have Y:m * i.bytes<=281474976710656:=by have:=fL i.bytes (bZ:m<=n+m);omega
 have a1:¬ (281474976710656<(m:Int) * (i.bytes:Int)):=by rw [<- Int.natCast_mul];omega
 have Sn:∀ (o:Nat),o<n+m->∀ (L:Option Nat),
   (w.drew.alloc (.cells (xs.toArray++Builtin.zeroCells z.cells m++Builtin.zeroCells z.cells (grownCap w (n+m) o e - (n+m))) e)).ownsRow 0 e i.size
    (.slice (some ⟨w.heap.size,0,none⟩) (n+m) (grownCap w (n+m) o e)) (n+m) (xs++a) /\
   w.grownBy (w.drew.alloc (.cells (xs.toArray++Builtin.zeroCells z.cells m++Builtin.zeroCells z.cells (grownCap w (n+m) o e - (n+m))) e)) L:=by
  intro o ho L;have a6:=grownCap_ge w (n+m) o e;have J:grownCap w (n+m) o e<=maxLen:=grownCap_le_maxLen w (n+m) o e a9;have a2:Builtin.zeroCells z.cells m=a.toArray:=by rw [j,<- X]
  rw [a2];refine ⟨⟨s,.inr ⟨w.heap.size,_,_,rfl,d9 _,heap_alloc_new w.drew _,a6,J,?_,?_⟩⟩,⟨rfl,rfl,rfl,by simp,λk hk _=>heap_alloc_old w.drew _ hk⟩⟩
  .simp only [Array.size_append,oW,size_zeroCells,M,c.1,D,<- Nat.add_mul];congr 1;omega
  .simp only [Array.toList_append,List.append_assoc];rw [<- List.append_assoc,<- s];exact List.take_left
 by_cases E:m=0
 .subst E;have a5:a=[]:=bQ (by rw [D];simp);subst a5;have R:(Builtin.append_ #[t,K] ty #[v,.int kq (0:Nat)]).run P w=.ok v w:=by
   rcases c.2 with ⟨rfl,rfl⟩|⟨g,b0,A,rfl,_,_,W,_⟩
   .simp [Builtin.append_,run_underlying N,run_underlying C,sizeOf,typeInfo,Z,asInt,asIntOf,IntKind.wrap_i64]
   .simp [Builtin.append_,run_underlying N,run_underlying C,sizeOf,typeInfo,Z,asInt,asIntOf,IntKind.wrap_i64,W,storeCells]
  exact ⟨v,w,R,by simpa using c,⟨rfl,rfl,rfl,bD _,λ_ _ _=>rfl⟩,λ_=>rfl,λb hb=>.inl hb⟩
 .rcases c.2 with ⟨rfl,rfl⟩|⟨g,l,A,rfl,a8,hg,W,J,a7,I⟩
  .have hx:xs=[]:=bQ (eL c.1);subst hx;have S:=Lib.run_append_nil_zeros (P:=P) w t K ty e i z kq kn N C Z hz m bZ O bZ Y;have y:=Sn 0 bZ (Value.ownBlock (.slice none 0 0));simp only [eN,dS,Array.empty_append] at y ⊢;exact ⟨_,_,S,y.1,y.2,λh=>absurd h E,λb hb=>.inr (by simp [Value.ownBlock] at hb;omega)⟩
  .by_cases q:n+m<=l
   .have a0:n * i.size+a.length<=A.size:=by rw [D,a7,<- Nat.add_mul];exact fL _ q
    have Q:=run_storeCells_at P g (n * i.size) e a 0 A w hg (eL a0) (λu hu=>by
     rw [j] at hu;exact T u hu)
    have a3:(Builtin.zeroCells z.cells m).toList=a:=by rw [j,X]
    have a4:¬ (m * i.size=0):=Nat.mul_ne_zero E bZ;simp only [u5] at Q;have S:(Builtin.append_ #[t,K] ty #[.slice (some ⟨g,0,none⟩) n l,.int kq m]).run P w=.ok (.slice (some ⟨g,0,none⟩) (n+m) l) (w.setRow g (A.toList.take (n * i.size)++a++A.toList.drop (n * i.size+a.length)).toArray):=by
     simp [Builtin.append_,run_underlying N,run_underlying C,sizeOf,typeInfo,zeroValue,Z,hz,asInt,asIntOf,hw,V,a4,a1,q,Addr.add_lit,a3,Q]
    refine ⟨_,_,S,⟨s,.inr ⟨g,l,_,rfl,a8,setRow_heap w g A _ e _ hg,q,J,?_,?_⟩⟩,⟨rfl,rfl,rfl,by simp,λk _ hk=>setRow_other w g k _ (λe=>hk (by simp [Value.ownBlock,e]))⟩,λh=>absurd h E,λb hb=>.inl hb⟩
    .simp only [oW,aQ,dF,iD,fY];omega
    .rw [I,<- s];exact List.take_left
   .have U:(Builtin.firstCells i.size n (.slice (some ⟨g,0,none⟩) n l)).run P w.drew=.ok xs.toArray w.drew :=
     run_firstCells_some (P:=P) w.drew i.size n ⟨g,0,none⟩ n l xs c.1 (c.cells (g:=g) rfl)
    have S:=Lib.run_append_grow_zeros (P:=P) w t K ty e i z kq kn N C Z hz (some ⟨g,0,none⟩) n l xs U m bZ O bZ bZ Y (growslice_fits bZ G);have y:=Sn l bZ (Value.ownBlock (.slice (some ⟨g,0,none⟩) n l));exact ⟨_,_,S,y.1,y.2,λh=>absurd h E,λb hb=>.inr (by simp [Value.ownBlock] at hb;omega)⟩
theorem Kd {t E ty:TypeId}{s:SlI}{va vb:Value}{x y:D}(hs:sl P t=some s)(hR:Rel M0 H σ w)(hx:RepV (dD M0 H σ) σ H.H w va x)(hy:RepV (dD M0 H σ) σ H.H w vb y)
  (q:(q6 P s E x y H).cond):(q6 P s E x y H).ae/\OpS P (Builtin.append_ #[t,E] ty #[va,vb]) M0 H σ w (q6 P s E x y H).val (q6 P s E x y H).heap:=by
 unfold q6 at *;obtain ⟨v,i,z,hi,hz,V,a7,R,a8,f,A,Q,a1⟩:=tC hs;cases y<;>try (simp [AOut.bad] at q;done)
 rename_i kq m;cases x<;>try (simp [AOut.bad] at q;done)
 rename_i id n;cases K:Q4 P E with
 | none=>simp [K,AOut.bad] at q
 | some kn =>
  simp only [K] at q ⊢;cases Y:H.get id with
  | none=>simp [Y,AOut.bad] at q
  | some k =>
   simp only [Y] at q ⊢;obtain ⟨a4,a5,r,U,I,J⟩:=q;obtain ⟨m,rfl⟩:=fB a4;simp only [Int.toNat_natCast] at I ⊢;have a3:P.underlying E=some (.int kn):=by
    unfold Q4 at K;grind
   obtain ⟨o,ho,l⟩:=hR.ak id k Y;obtain ⟨X,B,a2,a⟩:=l.row;cases hx
   rename_i a9 hN h;cases hy
   rcases h o ho with C|⟨_,rfl⟩
   .have:=l.ai;omega
   .have b:o.J=s.Z:=l.Z.trans J;rw [<- V] at R A Q b J;have G:w.ownsRow 0 s.e i.size o.val k.T.length X:=by rw [<- r];rw [b] at B;exact B
    have hb:(n+m) * i.bytes<=140737488355328:=by
     have:=kZ I (bZ:i.bytes<=4096);omega
    obtain ⟨hr,h1⟩:=r3 (M:=dD M0 H σ) (σ:=σ) (N:=H.H) (w:=w) z m bZ (by rw [<- f];exact a1);subst U;obtain ⟨Z,w',T,p,hg,F,W⟩:=Ak (P:=P) (ty:=ty) (kq:=kq) v a3 hi hz Q R o.val k.T.length X G m h1 I (by simp only [maxLen];omega) hb;have a0:∀ c∈List.replicate m s.z,c.length=i.size:=λc q=>by rw [lU q,A]
    have hp:=Rel.put hR (w':=w') Y a5 ho { k with T:=k.T++List.replicate m s.z } ⟨k.T.length+m,Z,i.size,s.e⟩ hg W
     (by
      by_cases h0:m=0
      .left
       have:=l.ai;have S:=F h0;obtain ⟨ov,a6,oe,ot⟩:=o;simp only at this S b ⊢;have ht:=l.ty;simp only at ht;subst this;subst S;subst b;rw [ht,r];simp [h0]
      .right;have:=l.ai;simp only;omega)
     eG (by simp [r]) (by simp [J])
     (λc q=>by
      rcases bE.1 q with C|C
      .simpa [<- b] using l.J c C
      .exact a0 c C)
     (X++(madeCells z.cells (m * z.cells.size)).toList) (by simpa [r] using p) (λu v=>by
      rcases bE.1 v with C|C
      .exact a2 u C
      .exact h1 u C)
     ⟨by simp only [aQ,g6,a.len];rw [hr.len,f],λj u d v hd=>by
      simp only [g6] at hd;by_cases hj:j<X.length
      .rw [aR hj] at v;rw [aR (by rw [<- a.len];exact hj)] at hd;exact a.ad j u d v hd
      .rw [aX bZ] at v;rw [aX (by rw [<- a.len];omega),<- a.len,f] at hd;exact hr.ad _ u d v hd⟩
    refine ⟨trivial,Z,w',_,T,hp.1,.own Z id _ hN ?_ λo' ho'=>?_,hp.2.1,hp.2.2⟩
    .rcases p.2 with ⟨rfl,_⟩|⟨g,c,cu,rfl,_⟩<;>rfl
    .simp at ho';subst ho';exact .inr ⟨rfl,rfl⟩
theorem Kb {nid:Nat}(l:¬ H.H nid){t a ty:TypeId}{h g:Value}{x y:D}(k:Rel M0 H σ w)(j:RepV (dD M0 H σ) σ H.H w h x)(i:RepV (dD M0 H σ) σ H.H w g y)
  (d:(lM P nid t a x y H).cond):(lM P nid t a x y H).ae/\OpS P (Builtin.append_ #[t,a] ty #[h,g]) M0 H σ w (lM P nid t a x y H).val (lM P nid t a x y H).heap:=by
 cases f:qT H y with
 | some n=>exact Nc l k j i (by rw [f];rfl) d
 | none =>
  cases e:sl P t with
  | none=>unfold lM at d;simp [e,f,AOut.bad] at d
  | some s =>
   have m:lM P nid t a x y H=q6 P s a x y H:=by unfold lM;simp only [e,f]
   rw [m] at d ⊢;exact Kd e k j i d
theorem IY (w:World)(cs:Array Value)(t:TypeId)(j:Nat):(w.alloc (.cells cs t)).cell? ⟨w.heap.size,j,none⟩=cs[j]?:=by simp_all
theorem OQ {M0:Nat->Prop}{nid:Nat}(hn:¬ H.H nid)(hR:Rel M0 H σ w)(m:Bool)(t:TypeId)(cs:Array Value)(ds:Xa2)(hrep:RepL (dD M0 H σ) σ H.H w cs.toList ds)(h1:∀ u∈cs.toList,u.oneCell'=true) :
  let d:D:=if m then .ptr nid 1 0 0 else .adr ds
  let H':=if m then H.push nid ⟨t,ds.length,[ds],false⟩ else H
  ∃ σ',Rel M0 H' σ' (w.alloc (.cells cs t))/\RepV (dD M0 H' σ') σ' H'.H (w.alloc (.cells cs t)) (.pointer (some ⟨w.heap.size,0,none⟩)) d/\Stp σ w σ' (w.alloc (.cells cs t)) /\
   Keeps (dD M0 H σ) σ H.H w (dD M0 H' σ') σ' H'.H (w.alloc (.cells cs t)):=by
 have hold:∀ b,b<w.heap.size->(w.alloc (.cells cs t)).heap[b]?=w.heap[b]?:=λ_ hb=>heap_alloc_old _ _ hb;have hl:cs.size=ds.length:=by simpa using hrep.len
 cases m with
 | false =>
  obtain ⟨hR',hS,hK⟩:=Rel.grow hR (w':=w.alloc (.cells cs t)) rfl rfl rfl eG hold;refine ⟨σ,hR',.adr _ cs.toList ds hrep.len h1 (λj u hu=>⟨?_,?_⟩) λj u d hu hd=>(hrep.ad j u d hu hd).u hK,hS,hK⟩
  .rintro (hm|⟨i,k,o,_,_,ho,hb⟩)
   .exact absurd (hR.m0 _ hm) (pZ _)
   .exact absurd (hR.lt i o _ ho hb).1 (pZ _)
  .rw [kB,eN,IY];simpa using hu
 | true =>
  simp only [if_true];have hp:=Rel.push hR nid hn (w':=w.alloc (.cells cs t)) rfl rfl rfl eG hold ⟨t,ds.length,[ds],false⟩ ⟨1,.slice (some ⟨w.heap.size,0,none⟩) 1 1,ds.length,t⟩
   (λb hb=>by simp [Ow.block,Value.ownBlock] at hb;omega) rfl rfl rfl eG cs.toList
   (World.ownsRow_lit w cs 1 (d9 _) (by simp [maxLen]) (by simp [hl])) h1 (eL hrep)
  refine ⟨_,hp.1,.ptr _ nid 1 0 0 (.inl rfl) rfl λo ho=>?_,hp.2.1,hp.2.2⟩;simp at ho;subst ho;exact .inr ⟨rfl,_,rfl,by simp⟩
theorem TX {nid:Nat}(o:¬ H.H nid){m:Bool}{t:TypeId}{d:Value}{x:D}(p:Rel M0 H σ w)(l:RepV (dD M0 H σ) σ H.H w d x)(g:(Nl P nid m t x H).cond) :
  (Nl P nid m t x H).ae/\OpS P (Instr.box t d) M0 H σ w (Nl P nid m t x H).val (Nl P nid m t x H).heap:=by
 have c:x.cells.all D.cell=true:=by unfold Nl at g;cases m<;>exact g
 obtain ⟨n,q⟩:=Bt l c;obtain ⟨σ',k,j,i,h⟩:=OQ o p m t d.cells x.cells n q;have b:(Instr.box t d).run P w=.ok (.pointer (some ⟨w.heap.size,0,none⟩)) (w.alloc (.cells d.cells t)):=by
  simp [Instr.box,newVar,newRow]
 cases m with
 | false=>exact ⟨trivial,_,_,σ',b,k,j,i,h⟩
 | true=>exact ⟨trivial,_,_,σ',b,k,j,i,h⟩
theorem RJ {t:TypeId}{z:Xa2}(h:zd P t=some z):∃ de i v,P.underlying t=some de/\P.info? t=some i/\i.zero=some v/\z=v.cells.toList.map rQ/\z.length=i.size/\0<i.size/\z.all D.cell=true:=by
 unfold zd at h;split at h
 .rename_i de i d e;split at h
  .rename_i a;cases h
   cases b:i.zero with
   | none=>simp [Ad,b] at a;omega
   | some v=>exact ⟨de,i,v,d,e,b,by simp [Ad,b],a.1,a.2.1,a.2.2⟩
  .cases h
 .cases h
theorem PV {nid:Nat}(q:¬ H.H nid){m:Bool}{t:TypeId}(u:Rel M0 H σ w)(s:(zE P nid m t H).cond) :
  (zE P nid m t H).ae/\OpS P (Instr.alloc t true (.tuple #[])) M0 H σ w (zE P nid m t H).val (zE P nid m t H).heap:=by
 unfold zE at *;cases h:zd P t with
 | none=>simp [h,AOut.bad] at s
 | some z =>
  obtain ⟨C,i,v,y,r,o,rfl,A,B,d⟩:=RJ h;obtain ⟨p,x⟩:=GX (M:=dD M0 H σ) (σ:=σ) (N:=H.H) (w:=w) v.cells.toList d;obtain ⟨σ',n,l,k,j⟩:=OQ q u m t v.cells _ p x;have b:(Instr.alloc t true (.tuple #[])).run P w=.ok (.pointer (some ⟨w.heap.size,0,none⟩)) (w.alloc (.cells v.cells t)):=by
   simp [Instr.alloc,zeroValue,typeInfo,r,o,newVar,newRow]
  cases m with
  | false=>exact ⟨trivial,_,_,σ',b,n,l,k,j⟩
  | true=>exact ⟨trivial,_,_,σ',b,n,l,k,j⟩
theorem Pi (cs:List Value):∀ (b d:Nat) (zs:Array Value),b+d+cs.length<=zs.size ->
  ((cs.zipIdx d).foldl (λa (p:Value × Nat)=>a.setIfInBounds (b+p.2) p.1) zs).toList=zs.toList.take (b+d)++cs++zs.toList.drop (b+d+cs.length):=by
 induction cs with
 | nil=>intro b d zs h;simp
 | cons c cs ih =>
  intro b d zs h;simp only [List.zipIdx_cons,wW];have i:b+d+(cs.length+1)<=zs.size:=by simpa using h
  rw [ih b (d+1) _ (by simp;omega)];apply f9;intro q;simp only [Array.toList_setIfInBounds,jX,dF,iU,fY,b9,cF,eB,e9];have e:min (b+(d+1)) zs.size=b+(d+1):=bZ;grind
theorem Cw {M:Nat->Prop}{N:Nat->Prop}(places:Nat->Option (Nat × Nat)):∀ (pv:List (Nat × Value)) (pd:List (Nat × D)) (zs:Array Value) (ds out:Xa2),
  pv.map (·.1)=pd.map (·.1)->(∀ (j:Nat) (v:Value) (d:D),(pv.map (·.2))[j]?=some v->(pd.map (·.2))[j]?=some d->RepV M σ N w v d)->(∀ p∈pd,p.2.cells.all D.cell=true) ->
  RepL M σ N w zs.toList ds->(∀ u∈zs.toList,u.oneCell'=true)->BY places ds pd=some out ->
  ∃ cs,Instr.fill places zs pv=some cs/\RepL M σ N w cs.toList out/\(∀ u∈cs.toList,u.oneCell'=true)/\out.length=ds.length
 | [],pd,zs,ds,out,hk,hr,hcl,hz,h1,hf=>by
  cases pd with
  | cons p pd=>simp at hk
  | nil=>simp [BY] at hf;subst hf;exact ⟨zs,rfl,hz,h1,rfl⟩
 | (i,v) :: pv,pd,zs,ds,out,hk,hr,hcl,hz,h1,hf=>by
  cases pd with
  | nil=>simp at hk
  | cons p pd =>
   obtain ⟨i',d⟩:=p;simp at hk;obtain ⟨rfl,hk⟩:=hk;unfold BY at hf;unfold Instr.fill;cases hp:places i with
   | none=>simp [hp] at hf
   | some q =>
    obtain ⟨off,size⟩:=q;simp only [hp] at hf ⊢;split at hf
    .rename_i hc;obtain ⟨hc1,hc2⟩:=hc;have hvd:=hr 0 v d rfl rfl;obtain ⟨hrv,hv1⟩:=Bt hvd (hcl (i,d) eG);have hvl:v.cells.size=d.cells.length:=LD hvd (hcl (i,d) eG);have hzl:zs.size=ds.length:=by simpa using hz.len
     have hcond:(v.cells.size≠size||off+v.cells.size > zs.size)=false:=by simp;omega
     have hs:=Pi v.cells.toList off 0 zs (by simp;omega);simp only [u5] at hs;have hfold:v.cells.zipIdx.foldl (λcs (x:Value × Nat)=>cs.setIfInBounds (off+x.2) x.1) zs=(v.cells.toList.zipIdx 0).foldl (λcs (x:Value × Nat)=>cs.setIfInBounds (off+x.2) x.1) zs:=by
      rw [<- Array.foldl_toList,Array.toList_zipIdx]
     obtain ⟨cs,hfill,hrep,h1',hlen⟩:=Cw places pv pd (v.cells.zipIdx.foldl (λcs (x:Value × Nat)=>cs.setIfInBounds (off+x.2) x.1) zs) (uB ds off d.cells) out hk
      (λj u x hu hx=>hr (j+1) u x hu hx) (λp hp=>hcl p (by simp [hp]))
      (by
       rw [hfold,hs];have hvl':v.cells.toList.length=d.cells.length:=by simpa using hvl
       refine ⟨by simp [uB];omega,λj u x hu hx=>?_⟩;simp only [uB,jX,dF,b9,cF,fY,hvl',hzl] at hu hx;split at hx
       .rename_i hj;rw [if_pos hj] at hu;split at hx
        .rename_i hj';rw [if_pos hj'] at hu;exact hz.ad j u x hu hx
        .cases hx
       .rename_i hj;rw [if_neg hj] at hu;split at hx
        .rename_i hj';rw [if_pos hj'] at hu;exact hrv.ad _ u x hu hx
        .rename_i hj';rw [if_neg hj'] at hu;exact hz.ad _ u x hu hx)
      (by
       rw [hfold,hs];intro u hu;simp only [bE] at hu;rcases hu with (hu|hu)|hu
       .exact h1 u (dL hu)
       .exact hv1 u hu
       .exact h1 u (fM hu)) hf
     refine ⟨cs,?_,hrep,h1',by rw [hlen];simp [uB];omega⟩;simp only [hcond,fC,if_false];exact hfill
    .cases hf
end
end Go.Abs
end
section
namespace Go.Abs
section
variable {P:Program} {M0:Nat→Prop} {H:AHeap} {σ:Nat→Option Ow} {w:World}
structure Parts (M:Nat->Prop) (σ:Nat->Option Ow) (N:Nat->Prop) (w:World) (pv:List (Nat × Value)) (pd:List (Nat × D)):Prop where
 fb:pv.map (·.1)=pd.map (·.1)
 ad:∀ (j:Nat) (v:Value) (d:D),(pv.map (·.2))[j]?=some v->(pd.map (·.2))[j]?=some d->RepV M σ N w v d
theorem PN {t:TypeId}{m:List (Nat × Value)}{d:List (Nat × D)}(C:Rel M0 H σ w)(s:Parts (dD M0 H σ) σ H.H w m d)
  (j:(uW P t d H).cond):(uW P t d H).ae/\OpS P (Instr.build t m.toArray) M0 H σ w (uW P t d H).val (uW P t d H).heap:=by
 unfold uW at *;cases n:zd P t with
 | none=>simp [n,AOut.bad] at j
 | some z =>
  cases h:bk P t with
  | none=>simp [n,h,AOut.bad] at j
  | some b =>
   simp only [n,h] at j ⊢;cases p:BY b.ct z d with
   | none=>simp [p,AOut.bad] at j
   | some out =>
    simp only [p] at j ⊢;refine ⟨trivial,?_⟩;obtain ⟨F,i,v,r,B,y,rfl,J,L,g⟩:=RJ n;obtain ⟨A,E⟩:=GX (M:=dD M0 H σ) (σ:=σ) (N:=H.H) (w:=w) v.cells.toList g;obtain ⟨u,f,c,q,_⟩:=Cw _ m d v.cells _ out s.fb s.ad (eL j) A E p;refine .pure C (run_build w t m.toArray u ?_) (.agg u.toList out c.len q c.ad);unfold Program.built;unfold bk at h;rw [r] at h;cases F<;>simp at h
    case array n' e =>
     obtain ⟨G,o,rfl⟩:=h;simp only [B,r,y,o];exact f
    case struct fs =>
     obtain ⟨l,I,rfl⟩:=h;have K:(BK.st l).ct=λx=>l[x]?:=rfl;simp_all
theorem uP (sz:Nat):∀ (n:Nat) (l:Xa2),(sX sz n l).length=n
 | 0,_=>rfl
 | n+1,l=>by simp [sX,uP sz n]
theorem FY (sz:Nat):∀ (n:Nat) (l:Xa2),l.length=n * sz->(sX sz n l).flatten=l
 | 0,l,h=>by simp at h;subst h;rfl
 | n+1,l,h=>by
  simp only [sX,eQ];rw [FY sz n _ (by rw [iD,h,Nat.add_mul];omega),List.take_append_drop]
theorem ES (sz:Nat):∀ (n:Nat) (l:Xa2),l.length=n * sz->∀ c∈sX sz n l,c.length=sz
 | 0,l,h,c,hc=>by cases hc
 | n+1,l,h,c,hc=>by
  simp only [sX,aS] at hc;rw [Nat.add_mul] at h;rcases hc with rfl|hc
  .rw [dF];omega
  .exact ES sz n _ (by rw [iD];omega) c hc
theorem ET {nid:Nat}(S:¬ H.H nid){m:Bool}{t:TypeId}{n:Nat}{Y:List (Nat × Value)}{y:List (Nat × D)}(hR:Rel M0 H σ w)(hp:Parts (dD M0 H σ) σ H.H w Y y)
  (V:(jO P nid m t n y H).cond):(jO P nid m t n y H).ae/\OpS P (Instr.buildSlice t n Y.toArray) M0 H σ w (jO P nid m t n y H).val (jO P nid m t n y H).heap:=by
 unfold jO at *;cases hs:sl P t with
 | none=>simp [hs,AOut.bad] at V
 | some s =>
  simp only [hs] at V ⊢;cases hf:BY (λi=>some (i * s.Z,s.Z)) (List.replicate n s.z).flatten y with
  | none=>simp [hf,AOut.bad] at V
  | some out =>
   simp only [hf] at V ⊢;obtain ⟨O,i,z,hi,hz,E,a4,a5,a6,A,R,Q,a0⟩:=tC hs;have K:n<=1000/\s.Z<=1000/\(y.all λp=>p.2.cells.all D.cell)=true:=by cases m<;>exact V
   obtain ⟨hn,a1,a2⟩:=K;obtain ⟨hr,h1⟩:=r3 (M:=dD M0 H σ) (σ:=σ) (N:=H.H) (w:=w) z n bZ (by rw [<- A];exact a0);rw [<- A] at hr;obtain ⟨v,a,g,X,T⟩:=Cw (λi=>some (i * s.Z,s.Z)) Y y (madeCells z.cells (n * z.cells.size)) _ out hp.fb hp.ad (eL a2) hr h1 hf;have I:out.length=n * s.Z:=by rw [T,nK,R]
   have U:v.size=n * s.Z:=by have:=g.len;simp at this;omega
   have Z:¬ n * s.Z > 2 ^ 24:=by
    have:=kZ hn a1;omega
   have B:(Instr.buildSlice t n Y.toArray).run P w=.ok (.slice (some ⟨w.heap.size,0,none⟩) n n) (w.alloc (.cells v s.e)):=by
    by_cases h0:n * s.Z=0
    .have c:(Array.range (n * s.Z)).map (λx=>(#[]:Array Value)[x % (#[]:Array Value).size]!)=madeCells z.cells (n * z.cells.size):=by
      rw [Q];simp [madeCells,h0,Array.range_zero']
     rw [<- c] at a;simp [Instr.buildSlice,run_underlying O,sizeOf,typeInfo,hi,E,h0] at a ⊢;simp [a,newRow]
    .have c:(Array.range (n * s.Z)).map (λx=>z.cells[x % z.cells.size]!)=madeCells z.cells (n * z.cells.size):=by
      simp [madeCells,Q]
     rw [<- c] at a;have q:¬ 16777216<n * s.Z:=bZ;simp [Instr.buildSlice,run_underlying O,sizeOf,typeInfo,hi,E,h0,q,zeroValue,hz,a,newRow]
   have J:=FY s.Z n out I;have C:∀ b,b<w.heap.size->(w.alloc (.cells v s.e)).heap[b]?=w.heap[b]?:=λ_ W=>heap_alloc_old _ _ W;cases m with
   | false =>
    simp only [fC,if_false];obtain ⟨a3,hS,hK⟩:=Rel.grow hR (w':=w.alloc (.cells v s.e)) rfl rfl rfl eG C;refine ⟨trivial,_,_,σ,B,a3,?_,hS,hK⟩;have hv:=RepV.list (M:=dD M0 H σ) (σ:=σ) (N:=H.H) (w:=w.alloc (.cells v s.e)) ⟨w.heap.size,0,none⟩ n s.Z v.toList (sX s.Z n out) (by simp [uP]) (by simp only [maxLen];omega)
     (ES s.Z n out I) (by rw [J];exact g.len) X (λj u O=>⟨by
      rintro (hm|⟨i,k,o,_,_,ho,W⟩)
      .exact absurd (hR.m0 _ hm) (pZ _)
      .exact absurd (hR.lt i o _ ho W).1 (pZ _),by
      rw [kB,eN,IY];simpa using O⟩) (λj u d O hd=>by rw [J] at hd;exact (g.ad j u d O hd).u hK)
    rw [uP] at hv;exact hv
   | true =>
    simp only [if_true];have G:=Rel.push hR nid S (w':=w.alloc (.cells v s.e)) rfl rfl rfl eG C ⟨s.e,s.Z,sX s.Z n out,false⟩ ⟨n,.slice (some ⟨w.heap.size,0,none⟩) n n,s.Z,s.e⟩
     (λb W=>by simp [Ow.block,Value.ownBlock] at W;omega) (by simp [uP]) rfl rfl (ES s.Z n out I) v.toList
     (by simp only [uP];exact World.ownsRow_lit w v n (d9 _) (by simp only [maxLen];omega) U) X (by simp only;rw [J];exact g)
    refine ⟨trivial,_,_,_,B,G.1,.own _ nid n (.inl rfl) rfl λo ho=>?_,G.2.1,G.2.2⟩;simp at ho;subst ho;exact .inr ⟨rfl,rfl⟩
theorem R6 {v:Value}{e n:Nat}{k:Blk}(t:Rel M0 H σ w)(p:RepV (dD M0 H σ) σ H.H w v (.own e n))(s:H.get e=some k)(r:k.T.length=n) :
  (v=.slice none 0 0/\n=0)\/∃ b cap,v=.slice (some ⟨b,0,none⟩) n cap/\n<=cap/\cap<=maxLen/\∃ o,σ e=some o/\o.block=some b/\o.J=k.Z/\o.ai=n:=by
 obtain ⟨o,j,l⟩:=t.ak e k s;obtain ⟨z,c,m,i⟩:=l.row;cases p
 rename_i B A h;rcases h o j with D|⟨u,rfl⟩
 .have:=l.ai;omega
 .rcases c.2 with ⟨d,C⟩|⟨g,cap,x,a,_,_,q,f,_⟩
  .exact .inl ⟨d,bZ⟩
  .exact .inr ⟨g,cap,by rw [a,r],bZ,f,o,j,by simp [Ow.block,a,Value.ownBlock],l.Z,u.symm⟩
theorem TD {t ty:TypeId}{l:Value}{x:D}(f:Rel M0 H σ w)(g:RepV (dD M0 H σ) σ H.H w l x)(d:(GE P t x H).cond) :
  (GE P t x H).ae/\OpS P (Builtin.len_ #[t] ty #[l]) M0 H σ w (GE P t x H).val (GE P t x H).heap:=by
 unfold GE at *;split at d
 .rename_i e c;split at d
  .cases g
   exact ⟨trivial,.pure f (by simp [Builtin.len_,run_underlying c,goInt]) (.int _ _)⟩
  .rename_i s;rcases uK g with ⟨rfl,rfl⟩|⟨u,j,p,o,rfl,_,_,_,i,h,_⟩
   .exact ⟨by simp,.pure f (by simp [Builtin.len_,run_underlying c,goInt]) (.int _ _)⟩
   .refine ⟨?_,.pure f (by simp [Builtin.len_,run_underlying c,goInt]) (.int _ _)⟩;simp only [maxLen] at h;simp only;omega
  .rename_i r n;split at d
   .rename_i k m;rcases R6 f g m d with ⟨rfl,rfl⟩|⟨b,j,rfl,i,h,_⟩
    .exact ⟨by simp,.pure f (by simp [Builtin.len_,run_underlying c,goInt]) (.int _ _)⟩
    .refine ⟨?_,.pure f (by simp [Builtin.len_,run_underlying c,goInt]) (.int _ _)⟩;simp only [maxLen] at h;simp only;omega
   .exact d.elim
  .exact d.elim
 .rename_i c;split at d
  .cases g
   exact ⟨trivial,.pure f (by simp [Builtin.len_,run_underlying c,goInt]) (.int _ _)⟩
  .exact d.elim
 .rename_i n e c;refine ⟨trivial,.pure f ?_ (.int _ _)⟩;simp [Builtin.len_,run_underlying c,goInt]
 .exact d.elim
end
end Go.Abs
end
section
namespace Go.Abs
section
variable {P:Program} {M0:Nat→Prop} {H:AHeap} {σ:Nat→Option Ow} {w:World}
theorem VO {M:Nat->Prop}{N:Nat->Prop}{v:Value}{cs:Xa2}(c:Nat)(h:RepV M σ N w v (.adr cs)) :
  ∃ a,v=.pointer (some a)/\RepV M σ N w (.pointer (some (a.add c))) (.adr (cs.drop c)):=by
 obtain ⟨i,f,rfl,b,g,e⟩:=Nh h;refine ⟨i,rfl,.adr _ (f.drop c) _ (by simp [b.len]) (λu hu=>g u (fM hu)) (λj u hu=>?_) λj u d hu hd=>?_⟩
 .rw [cF] at hu;obtain ⟨l,k⟩:=e _ u hu;rw [i6,D6];grind
 .rw [cF] at hu hd;exact b.ad _ u d hu hd
theorem RZ {v:Value}{c ver i a:Nat}{k:Blk}(g:Rel M0 H σ w)(d:RepV (dD M0 H σ) σ H.H w v (.ptr c ver i a))(f:H.get c=some k)(j:k.T.length=ver) :
  ∃ b o,σ c=some o/\o.block=some b/\v=.pointer (some ⟨b,i * o.J+a,none⟩)/\H.H c/\o.ai=ver:=by
 obtain ⟨o,m,l⟩:=g.ak c k f;cases d
 rename_i p n h;have e:o.ai=k.T.length:=l.ai;grind
theorem F9 {v:Value}{x:D}{c:Nat}(l:Rel M0 H σ w)(h:RepV (dD M0 H σ) σ H.H w v x)(e:(eP x c H).cond) :
  ∃ a,v=.pointer (some a)/\RepV (dD M0 H σ) σ H.H w (.pointer (some (a.add c))) (eP x c H).val/\(eP x c H).heap=H/\(eP x c H).ae:=by
 unfold eP at *;cases x<;>try (exact e.elim)
 case adr cs =>
  obtain ⟨a,s,r⟩:=VO c h;grind
 case ptr id ver i o =>
  cases f:H.get id with
  | none=>simp [f,AOut.bad] at e
  | some k =>
   simp only [f] at e ⊢;obtain ⟨b,n,p,q,rfl,m,j⟩:=RZ l h f e;refine ⟨_,rfl,?_,trivial,trivial⟩;rw [kB];refine .ptr _ id ver i (o+c) m rfl λo' ho'=>?_;grind
theorem Gs {t:TypeId}{z:Value}{x:D}{f:Nat}(C:Rel M0 H σ w)(F:RepV (dD M0 H σ) σ H.H w z x)(k:(i9 P t x f H).cond) :
  (i9 P t x f H).ae/\OpS P (Instr.fieldAt t z f) M0 H σ w (i9 P t x f H).val (i9 P t x f H).heap:=by
 unfold i9 at *;cases m:bk P t with
 | none=>simp [m,AOut.bad] at k
 | some b =>
  cases b with
  | ar p=>simp [m,AOut.bad] at k
  | st l =>
   simp only [m] at k ⊢;cases B:l[f]? with
   | none=>simp [B,AOut.bad] at k
   | some q =>
    obtain ⟨g,p⟩:=q;simp only [B] at k ⊢;obtain ⟨a,rfl,o,J,j⟩:=F9 C F k.1;refine ⟨j,?_⟩;rw [J];unfold bk at m;cases u:P.underlying t with
    | none=>simp [u] at m
    | some L =>
     rw [u] at m;cases L<;>simp at m
     rename_i K;have I:∃ d,K[f]?=some d/\∃ i,P.info? d.type=some i/\g=d.offset/\p=i.size:=by
      have E:∀ (d:List Field) (l:List (Nat × Nat)) (f:Nat),d.mapM (λf=>(P.info? f.type).map λi=>(f.offset,i.size))=some l->l[f]?=some (g,p) ->
        ∃ x,d[f]?=some x/\∃ i,P.info? x.type=some i/\g=x.offset/\p=i.size:=by
       intro d;induction d with
       | nil=>intro l f h A;simp at h;subst h;simp at A
       | cons a d ih =>
        intro l f h A;simp only [List.mapM_cons,Option.bind_eq_bind,Option.pure_def] at h;cases s:P.info? a.type with
        | none=>simp [s] at h
        | some i =>
         cases G:d.mapM (λf=>(P.info? f.type).map λi=>(f.offset,i.size)) with
         | none=>simp [s,G] at h
         | some rest =>
          grind
      grind
     obtain ⟨d,y,i,s,rfl,rfl⟩:=I;have v:i.size≠0:=by have:=k.2;omega
     exact .pure C (by simp [Instr.fieldAt,run_underlying u,y,Instr.sureAddr,fieldPlace,sizeOf,typeInfo,s,v]) o
theorem PT {t:TypeId}{n sz:Nat}(h:VJ P t=some (n,sz)):∃ e i,P.underlying t=some (.array n e)/\P.info? e=some i/\i.size=sz:=by grind [VJ]
theorem Gq {t:TypeId}{W vi:Value}{x i:D}(R:Rel M0 H σ w)(Q:RepV (dD M0 H σ) σ H.H w W x)(hi:RepV (dD M0 H σ) σ H.H w vi i)(B:(i7 P t x i H).cond) :
  (i7 P t x i H).ae/\OpS P (Instr.indexAt t W vi) M0 H σ w (i7 P t x i H).val (i7 P t x i H).heap:=by
 unfold i7 at *;cases i<;>try (exact B.elim)
 rename_i kd n;cases hi
 have L:∀ (x:D),RepV (dD M0 H σ) σ H.H w W x->(match VJ P t with
   | some (len,sz)=>(⟨(eP x (n.toNat * sz) H).cond/\0<=n/\n<len,(eP x (n.toNat * sz) H).ae,(eP x (n.toNat * sz) H).val,(eP x (n.toNat * sz) H).heap⟩:AOut)
   | none=>AOut.bad H).cond->(match VJ P t with
   | some (len,sz)=>(⟨(eP x (n.toNat * sz) H).cond/\0<=n/\n<len,(eP x (n.toNat * sz) H).ae,(eP x (n.toNat * sz) H).val,(eP x (n.toNat * sz) H).heap⟩:AOut)
   | none=>AOut.bad H).ae/\OpS P (Instr.indexAt t W (.int kd n)) M0 H σ w (match VJ P t with
   | some (len,sz)=>(⟨(eP x (n.toNat * sz) H).cond/\0<=n/\n<len,(eP x (n.toNat * sz) H).ae,(eP x (n.toNat * sz) H).val,(eP x (n.toNat * sz) H).heap⟩:AOut)
   | none=>AOut.bad H).val (match VJ P t with
   | some (len,sz)=>(⟨(eP x (n.toNat * sz) H).cond/\0<=n/\n<len,(eP x (n.toNat * sz) H).ae,(eP x (n.toNat * sz) H).val,(eP x (n.toNat * sz) H).heap⟩:AOut)
   | none=>AOut.bad H).heap:=by
  intro x Q B;cases ha:VJ P t with
  | none=>simp [ha,AOut.bad] at B
  | some q =>
   obtain ⟨len,sz⟩:=q;simp only [ha] at B ⊢;obtain ⟨h1,K,S⟩:=B;obtain ⟨a,rfl,A,hh,N⟩:=F9 R Q h1;refine ⟨N,?_⟩;rw [hh];obtain ⟨e,i,h,a3,p⟩:=PT ha;exact .pure R (by simp [Instr.indexAt,run_underlying h,asIntOf,Instr.sureAddr,K,S,sizeOf,typeInfo,a3,p]) A
 cases x<;>try (exact L _ Q B)
 case list es =>
  cases G:sl P t with
  | none=>simp [G,AOut.bad] at B
  | some s =>
   simp only [G] at B ⊢;obtain ⟨⟨h0,h1⟩,K⟩:=B;obtain ⟨h,ti,z,M,hz,p,_,a0,_⟩:=tC G;obtain ⟨q,rfl⟩:=fB h0;simp only [Int.toNat_natCast] at K ⊢;have I:q<es.length:=bZ;have J:es[q]?=some es[q]:=aA I;rw [J] at K ⊢;simp only [aD] at K ⊢;refine ⟨trivial,?_⟩;rcases uK Q with ⟨rfl,rfl⟩|⟨ad,a5,sz,xs,rfl,A,Z,O,a2,hm,E⟩
   .simp at I
   .have U:sz=s.Z:=(E _ (aC I)).symm.trans K;subst U;have a4:=mI es E;have Y:q * s.Z+s.Z<=xs.length:=by
     rw [A.len,a4];have:(q+1) * s.Z<=es.length * s.Z:=fL _ I;rw [Nat.add_mul] at this;omega
    refine .pure R (v:=.pointer (some (ad.add (q * s.Z)))) (by simp [Instr.indexAt,run_underlying h,asIntOf,I,sizeOf,typeInfo,M,p]) ?_;refine .adr _ ((xs.drop (q * s.Z)).take s.Z) _ (by simp only [dF,iD];omega) (λu h=>Z u (fM (dL h))) (λj u h=>?_) λj u d h hd=>?_
    .rw [b9] at h;split at h
     .rw [cF] at h;obtain ⟨h5,h6⟩:=O _ u h;rw [i6,D6];exact ⟨h5,h6⟩
     .cases h
    .rw [b9] at h;split at h
     .rename_i hj;rw [cF] at h;exact A.ad _ u d h (by rw [n6 es q _ E J j hj];exact hd)
     .cases h
 case own id m =>
  cases G:sl P t with
  | none=>simp [G,AOut.bad] at B
  | some s =>
   cases X:H.get id with
   | none=>simp [G,X,AOut.bad] at B
   | some k =>
    simp only [G,X] at B ⊢;obtain ⟨⟨h0,h1⟩,K,S⟩:=B;obtain ⟨h,ti,z,M,hz,p,_,a0,_⟩:=tC G;obtain ⟨q,rfl⟩:=fB h0;simp only [Int.toNat_natCast] at S ⊢;have I:q<k.T.length:=bZ;have a1:q<m:=bZ;refine ⟨trivial,?_⟩;obtain ⟨o,ho,l⟩:=R.ak id k X;have V:o.J=s.Z:=by
     rw [aA I] at S;simp only [aD] at S;exact (l.J _ (aC I)).symm.trans S
    have hN:H.H id:=by cases Q;assumption
    rcases R6 R Q X K with ⟨rfl,rfl⟩|⟨b,a5,rfl,a2,hm,o',F,hb,_,T⟩
    .omega
    .rw [ho] at F;cases F
     refine .pure R (v:=.pointer (some ⟨b,q * s.Z,none⟩)) (by simp [Instr.indexAt,run_underlying h,asIntOf,a1,sizeOf,typeInfo,M,p,kB]) ?_;refine .ptr _ id m q 0 hN rfl λo' F=>?_;rw [ho] at F;cases F
     exact .inr ⟨T.symm,b,hb,by rw [V];simp⟩
theorem OI {i k j:Value}{c a b:D}(g:Rel M0 H σ w)(e:RepV (dD M0 H σ) σ H.H w i c)(m:RepV (dD M0 H σ) σ H.H w k a)(l:RepV (dD M0 H σ) σ H.H w j b)
  (f:(wQ c a b H).cond):(wQ c a b H).ae/\OpS P (do pure (if <- asBool i then k else j)) M0 H σ w (wQ c a b H).val (wQ c a b H).heap:=by
 unfold wQ at *;split at f
 .cases e;cases m
  exact ⟨trivial,.pure g (by simp [asBool]) (.bool _)⟩
 .cases e;cases m
  rename_i h;have:=h f;cases this
  exact ⟨trivial,.pure g (by simp [asBool]) (.bool _)⟩
 .cases e;cases l
  exact ⟨trivial,.pure g (by simp [asBool]) (.bool _)⟩
 .cases e;cases l
  rename_i h;have:=h f;cases this
  exact ⟨trivial,.pure g (by simp [asBool]) (.bool _)⟩
 .exact f.elim
theorem QP {l n m:Value}{c a b:D}(f:Rel M0 H σ w)(e:RepV (dD M0 H σ) σ H.H w l c)(k:RepV (dD M0 H σ) σ H.H w n a)(j:RepV (dD M0 H σ) σ H.H w m b)
  (i:(A9 c a b H).cond):(A9 c a b H).ae/\OpS P (do pure (if <- asBool l then n else m)) M0 H σ w (A9 c a b H).val (A9 c a b H).heap:=by
 unfold A9 at *;split at i
 .rename_i c a b;cases e;cases k;cases j
  cases c<;>exact ⟨trivial,.pure f (by simp [asBool]) (.bool _)⟩
 .rename_i c a g b;cases e;cases k;cases j
  rename_i h;cases c with
  | true=>exact ⟨trivial,.pure f (by simp [asBool]) (.bool _)⟩
  | false =>
   have:=h (i rfl);cases this
   exact ⟨trivial,.pure f (by simp [asBool]) (.bool _)⟩
 .rename_i c g a b;cases e;cases k;cases j
  rename_i h;cases c with
  | false=>exact ⟨trivial,.pure f (by simp [asBool]) (.bool _)⟩
  | true =>
   have:=h (i rfl);cases this
   exact ⟨trivial,.pure f (by simp [asBool]) (.bool _)⟩
 .rename_i c g a r b;cases e;cases k;cases j
  rename_i p h o q;cases c with
  | false =>
   have:=q (i.2 rfl);cases this
   exact ⟨trivial,.pure f (by simp [asBool]) (.bool _)⟩
  | true =>
   have:=h (i.1 rfl);cases this
   exact ⟨trivial,.pure f (by simp [asBool]) (.bool _)⟩
 .exact OI f e k j i
theorem KZ {mx:Bool}{b:Builtin}(i:b=if mx then .max else .min){t:TypeId}{ts:Array TypeId}{d c:Value}{x y:D}(f:Rel M0 H σ w)(h:RepV (dD M0 H σ) σ H.H w d x)(g:RepV (dD M0 H σ) σ H.H w c y)
  (e:(D9 mx x y H).cond):(D9 mx x y H).ae/\OpS P (if mx then Builtin.max_ ts t #[d,c] else Builtin.min_ ts t #[d,c]) M0 H σ w (D9 mx x y H).val (D9 mx x y H).heap:=by
 unfold D9 at *;split at e
 .obtain rfl:=e;cases h;cases g
  cases mx with
  | true=>exact ⟨trivial,.pure f (by simp [Builtin.max_,Builtin.max2]) (.int _ _)⟩
  | false=>exact ⟨trivial,.pure f (by simp [Builtin.min_,Builtin.min2]) (.int _ _)⟩
 .exact e.elim
theorem J7 {s d:TypeId}{h:Value}{x:D}(j:Rel M0 H σ w)(i:RepV (dD M0 H σ) σ H.H w h x)(b:(oD P s d x H).cond) :
  (oD P s d x H).ae/\OpS P (convert s d h) M0 H σ w (oD P s d x H).val (oD P s d x H).heap:=by
 unfold oD at *;split at b
 .rename_i p n;split at b
  .rename_i k c;cases i
   obtain ⟨o,m⟩:=b;obtain ⟨r,g⟩:=lT.1 o;unfold Q4 at c;split at c
   .rename_i q l;cases c
    exact ⟨trivial,.pure j (by simp [convert,run_underlying g,run_underlying l,Conv.intToInt,t7 m]) (.int _ _)⟩
   .cases c
  .exact b.elim
 .split at b
  .rename_i f e;cases i
   exact ⟨trivial,.pure j (by simp [convert,run_underlying f,run_underlying e]) (.str _)⟩
  .exact b.elim
 .exact b.elim
theorem Uk {b:UnOp}{d:Value}{x:D}(f:Rel M0 H σ w)(e:RepV (dD M0 H σ) σ H.H w d x)(c:(VP b x H).cond) :
  (VP b x H).ae/\OpS P (Op.unary b d) M0 H σ w (VP b x H).val (VP b x H).heap:=by
 unfold VP at *;split at c
 .cases e;exact ⟨trivial,.pure f (by simp [Op.unary]) (.bool _)⟩
 .cases e;exact ⟨trivial,.pure f (by simp [Op.unary,Op.intArith];rw [t7 (eL c)]) (by simpa using RepV.int _ _)⟩
 .exact c.elim
theorem J1 {c:Value}{x:D}{i:Nat}(h:Rel M0 H σ w)(e:RepV (dD M0 H σ) σ H.H w c x)(d:(oC x i H).cond) :
  (oC x i H).ae/\OpS P (Instr.extract c i) M0 H σ w (oC x i H).val (oC x i H).heap:=by
 unfold oC at *;cases x<;>try (exact d.elim)
 rename_i j;cases e
 rename_i b f k;have g:i<b.length:=by rw [f];exact d
 refine ⟨trivial,.pure h (v:=b[i]) (by simp [Instr.extract,g]) ?_⟩;grind
theorem KS {nid:Nat}(k:¬ H.H nid){m:Bool}{t:TypeId}{x:Sem Value}(h:Rel M0 H σ w)(g:x.run P w=.ok (.slice none 0 0) w)(l:(Fa P nid m t H).cond) :
  (Fa P nid m t H).ae/\OpS P x M0 H σ w (Fa P nid m t H).val (Fa P nid m t H).heap:=by
 unfold Fa at *;cases m with
 | false=>exact ⟨trivial,.pure h g .nil⟩
 | true =>
  cases i:sl P t with
  | none=>simp [i,AOut.bad] at l
  | some s =>
   have f:=Rel.push h nid k (w':=w) rfl rfl rfl (bD _) (λ_ _=>rfl) ⟨s.e,s.Z,[],false⟩ ⟨0,.slice none 0 0,s.Z,s.e⟩ (λb hb=>by simp [Ow.block,Value.ownBlock] at hb) rfl rfl rfl eG
    [] (World.ownsRow_nil w 0 s.e s.Z) eG ⟨rfl,λj u d hu=>by simp at hu⟩
   refine ⟨trivial,_,w,_,g,f.1,.own _ nid 0 (.inl rfl) rfl λo ho=>?_,f.2.1,f.2.2⟩;grind
theorem HZ {d:Value}{x:D}(j:Rel M0 H σ w)(g:RepV (dD M0 H σ) σ H.H w d x)(c:(kG x H).cond) :
  ∃ a,d=.pointer (some a)/\(kG x H).ae/\RepV (dD M0 H σ) σ H.H w d (kG x H).val/\(kG x H).heap=H:=by
 unfold kG at *;cases x<;>try (exact c.elim)
 case adr cs =>
  obtain ⟨r,l,rfl,_⟩:=Nh g;grind
 case ptr id ver i o =>
  cases e:H.get id with
  | none=>simp [e,AOut.bad] at c
  | some k =>
   simp only [e] at c ⊢;obtain ⟨b,m,n,p,rfl,q,h⟩:=RZ j g e c;grind
end
end Go.Abs
end
