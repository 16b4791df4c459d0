/- The abstraction layer, part E: operations that write or make -/
import Derived.Test.YtpdanmkcpjdmjaaGreatZkAA
import Derived.Lib.AppendZerosOnto
set_option linter.unusedVariables false
set_option linter.unusedSimpArgs false
section
namespace Go.Abs
section
variable {P:Program} {M0:Nat→Prop} {H:AHeap} {σ:Nat→Option Ow} {w:World}
theorem H9 (o:Ow)(a:Nat)(h:σ a=some o):(λi=>if i=a then some o else σ i)=σ:=by grind
theorem FQ {n:Nat}:∀ (es:UE) (i:Nat) (c c':UN),(∀ c∈es,c.length=n)->es[i]?=some c->c'.length=n ->
  (es.set i c').flatten=es.flatten.take (i * n)++c'++es.flatten.drop (i * n+n)
 | [],i,c,c',_,h,_=>by simp at h
 | e :: es,0,c,c',hl,h,hc'=>by
  have he:=hl e dB;simp [he]
 | e :: es,i+1,c,c',hl,h,hc'=>by
  have he:=hl e dB;simp at h;have ih:=FQ es i c c' (λc hc=>hl c (by simp [hc])) h hc';simp only [Fc,e8,ih];have e1:(i+1) * n=e.length+i * n:=by rw [Nat.add_mul,he];omega
  rw [e1,Bb,List.drop_append];simp only [List.append_assoc];rw [show List.take (e.length+i * n) e=e by rw [aG];omega,(aD:e.length+i * n - e.length=i * n),
   show List.drop (e.length+i * n+n) e=[] by rw [g8];omega,(aD:e.length+i * n+n - e.length=i * n+n)]
  simp
theorem i6 {α:Type}(a b c:List α)(j:Nat):(a++b++c)[j]?=if j<a.length then a[j]? else if j<a.length+b.length then b[j - a.length]? else c[j - a.length - b.length]?:=by grind
theorem A7 {M:Nat->Prop}{N:Nat->Prop}{v:Value}{d:D}(h:RepV M σ N w v d)(f:d.cells.all D.cell=true) :
    RepL M σ N w v.cells.toList d.cells/\∀ u∈v.cells.toList,u.oneCell'=true:=by
  cases d with
  | agg ds =>
    cases h
    rename_i g a e c;exact ⟨⟨by simpa [Value.cells,D.cells] using e,λj u x hu hx=>c j u x (by simpa [Value.cells] using hu) (by simpa [D.cells] using hx)⟩,by simpa [Value.cells] using a⟩
  | _ =>
    first
    | (simp [D.cells,D.cell] at f;done)
    | (have a:=h.cF rfl
       have b:v.cells=#[v]:=by cases v<;>first|rfl|(simp [Value.oneCell'] at a)
       rw [b];refine ⟨⟨by simp [D.cells],λj u x hu hx=>?_⟩,by simpa using a⟩;cases j with
       | zero=>simp [D.cells] at hu hx;subst hu;subst hx;exact h
       | succ j=>simp at hu)
theorem LR {M:Nat->Prop}{N:Nat->Prop}{v:Value}{d:D}(h:RepV M σ N w v d)(a:d.cells.all D.cell=true):v.cells.size=d.cells.length:=by
 have:=(A7 h a).1.len;simpa using this
def OpU (P:Program)(x:Sem Unit)(M0:Nat->Prop)(H:AHeap)(σ:Nat->Option Ow)(w:World)(H':AHeap):Prop :=
 ∃ w' σ',x.run P w=.ok () w'/\Rel M0 H' σ' w'/\Stp σ w σ' w'/\Keeps (dJ M0 H σ) σ H.F w (dJ M0 H' σ') σ' H'.F w'
theorem N6 {t:TypeId}{va r:Value}{x v:D}(hR:Rel M0 H σ w)(hx:RepV (dJ M0 H σ) σ H.F w va x)(hv:RepV (dJ M0 H σ) σ H.F w r v)(Y:(mN P t x v H).cond) :
  OpU P (Instr.storeAt t va r) M0 H σ w (mN P t x v H).heap:=by
 unfold mN at *;cases x<;>try (simp [AOut.bad] at Y;done)
 rename_i id ver i a;cases V:H.get id with
 | none=>simp [V,AOut.bad] at Y
 | some k =>
  cases s:k.U[i]? with
  | none=>simp [V,s,AOut.bad] at Y
  | some c =>
   simp only [V,s] at Y ⊢;obtain ⟨a8,b5,a2,I,z,b6⟩:=Y;obtain ⟨ti,Q⟩:=lH.1 I;obtain ⟨o,ho,l⟩:=hR.ah id k V;obtain ⟨E,S,N,p⟩:=l.row;have a4:i<k.U.length:=(aP.1 s).1;have b2:c.length=o.H:=l.H c (aL s);cases hx
   rename_i hN h1 h;rcases h o ho with C|⟨b8,b,hb,rfl⟩
   .have:=l.af;omega
   .obtain ⟨a3,O⟩:=A7 hv z;have a1:=LR hv z;have F:E.length=k.U.length * o.H:=p.len.trans (mA k.U l.H);have a0:i * o.H+o.H<=E.length:=by
     rw [F];have:(i+1) * o.H<=k.U.length * o.H:=fG _ a4;rw [Nat.add_mul] at this;omega
    rcases S.2 with ⟨T,_⟩|⟨g,b4,n,B,b3,hg,U,b1,b0,G⟩
    .simp [Ow.block,T,Value.ownBlock] at hb
    .have a7:g=b:=by simpa [Ow.block,B,Value.ownBlock] using hb
     subst a7;have b7:k.U.length * o.H<=n.size:=by rw [b0];exact fG _ U
     have R:=run_storeCells_at (P:=P) g (i * o.H+a) k.ty r.cells.toList 0 n w hg (by simp;omega) O;simp only [uT] at R;have y:r.cells.size=ti.size:=by rw [a1,a2];simp [Program.cellsOf,Q]
     refine ⟨w.setRow g (n.toList.take (i * o.H+a)++r.cells.toList++n.toList.drop (i * o.H+a+r.cells.toList.length)).toArray,σ,?_,?_⟩
     .simp [Instr.storeAt,Instr.sureAddr,storeVar,sizeOf,typeInfo,Q,y];simpa [y] using R
     .have A:(tQ c a v.cells).length=o.H:=by simp [tQ];omega
      have hp:=Rel.put hR V a8 ho { k with U:=k.U.set i (tQ c a v.cells) } o (w':=w.setRow g (n.toList.take (i * o.H+a)++r.cells.toList++n.toList.drop (i * o.H+a+r.cells.toList.length)).toArray)
       ⟨rfl,rfl,rfl,by simp,λq _ hq=>setRow_other w g q _ (λe=>hq (by rw [e,hb]))⟩ (λb' hb'=>.inl hb') (.inl rfl) (eQ l.af) l.ty l.Y
       (λd m=>by
        rcases nM m with C|C
        .exact l.H d C
        .rw [C,A])
       (E.take (i * o.H+a)++r.cells.toList++E.drop (i * o.H+a+r.cells.toList.length))
       ⟨by simp [F];omega,.inr ⟨g,b4,_,by simpa using B,b3,setRow_heap w g n _ k.ty _ hg,by simpa using U,b1,by simp;omega,by
        have c0:r.cells.toList.length=r.cells.size:=dB;simp only [fV];rw [<- G];apply fL;intro j;simp only [cF,i6,c8,cT,gJ];by_cases hj:j<k.U.length * o.H
        .rw [if_pos hj];have m1:min (i * o.H+a) n.size=i * o.H+a:=aD;have M:min (i * o.H+a) (min (k.U.length * o.H) n.size)=i * o.H+a:=aD;rw [m1,M];split
         .first|rfl|rw [if_pos hj]
         .split
          .rfl
          .first|rfl|rw [if_pos aD]
        .rw [if_neg hj];have M:min (i * o.H+a) (min (k.U.length * o.H) n.size)=i * o.H+a:=aD;rw [M,if_neg aD,if_neg aD,if_neg aD]⟩⟩
       (λu f=>by
        simp only [aX] at f;rcases f with (f|f)|f
        .exact N u (dC f)
        .exact O u f
        .exact N u (fH f))
       ⟨by rw [mA _ (λd m=>by
          rcases nM m with C|C
          .exact l.H d C
          .rw [C,A])];simp [F];omega,λj u d f m=>by
        simp only at m;rw [FQ k.U i c _ l.H s A] at m;have a9:k.U.flatten.length=E.length:=p.len.symm;simp only [i6,c8,cF,cT,a9,A,gJ] at f m;have m1:min (i * o.H+a) E.length=i * o.H+a:=aD;have M:min (i * o.H) E.length=i * o.H:=aD;rw [m1] at f;rw [M] at m;split at m
        .rename_i X;rw [if_pos aD,if_pos aD] at f;try rw [if_pos X] at m
         exact p.Z j u d f m
        .rename_i X;split at m
         .rename_i a6;simp only [tQ,i6,c8,cF,cT] at m;have m3:min a c.length=a:=aD;rw [m3] at m;split at m
          .rename_i W;rw [if_pos aD,if_pos aD] at f;try rw [if_pos W] at m
           refine p.Z j u d f ?_;have:=nE k.U i c l.H s (j - i * o.H) aD;rw [(aD:i * o.H+(j - i * o.H)=j)] at this;rw [this,m]
          .rename_i W;split at m
           .rename_i a5;rw [if_neg aD,if_pos aD] at f;refine a3.Z (j - (i * o.H+a)) u d f ?_;rw [<- m];congr 1;omega
           .rename_i a5;rw [if_neg aD,if_neg aD] at f;have e1:i * o.H+a+r.cells.size+(j - (i * o.H+a) - r.cells.size)=j:=aD;rw [e1] at f;refine p.Z j u d f ?_;have:=nE k.U i c l.H s (j - i * o.H) aD;rw [(aD:i * o.H+(j - i * o.H)=j)] at this;rw [this,<- m];congr 1;omega
         .rename_i a6;rw [if_neg aD,if_neg aD] at f;have e1:i * o.H+a+r.cells.size+(j - (i * o.H+a) - r.cells.size)=j:=aD;rw [e1] at f;refine p.Z j u d f ?_;rw [<- m];congr 1;omega⟩
      simp only [H9 o id ho] at hp;exact hp
end
end Go.Abs
end
section
namespace Go.Abs
section
variable {P:Program} {M0:Nat→Prop} {H:AHeap} {σ:Nat→Option Ow} {w:World}
theorem sZ {t:TypeId}{s:SlI}(h:sl P t=some s) :
  P.underlying t=some (.slice s.e)/\∃ i z,P.info? s.e=some i/\i.zero=some z/\i.size=s.Y/\i.bytes=s.dh/\0<s.Y/\s.dh<=4096/\s.z=z.cells.toList.map rB/\s.z.length=s.Y/\z.cells.size=s.Y/\s.z.all D.cell=true:=by
 unfold sl at h;split at h
 .rename_i e f;split at h
  .rename_i i g;split at h
   .rename_i j;obtain ⟨l,k,c,b⟩:=j;cases h
    cases a:i.zero with
    | none=>simp [zW,a] at c;omega
    | some z =>
     refine ⟨f,i,z,g,a,rfl,rfl,l,k,by simp [zW,a],c,?_,b⟩;simpa [zW,a] using c
   .cases h
  .cases h
 .cases h
theorem Je {M:Nat->Prop}{N:Nat->Prop}(v:Value):RepV M σ N w v (rB v):=by
 unfold rB;split
 .exact .int _ _
 .exact .bool _
 .exact .str _
 .exact .nil
 .exact .nilp
 .exact .nilf
 .exact .junk _
theorem RJ {v:Value}(h:(rB v).cell=true):v.oneCell'=true:=by
 cases v<;>first|rfl|(simp [rB,D.cell] at h)
theorem G2 {M:Nat->Prop}{N:Nat->Prop}(zs:List Value)(h:(zs.map rB).all D.cell=true):RepL M σ N w zs (zs.map rB)/\∀ u∈zs,u.oneCell'=true:=by
 refine ⟨⟨by simp,λj u d hu hd=>?_⟩,λu hu=>?_⟩
 .rw [aM,hu] at hd;simp at hd;subst hd;exact Je u
 .simp only [List.all_map,c9,Function.comp] at h;exact RJ (h u hu)
theorem t6 {M:Nat->Prop}{N:Nat->Prop}{v:Value}{es:UE}(h:RepV M σ N w v (.list es)) :
  (v=.slice none 0 0/\es=[])\/∃ ad cap sz xs,v=.slice (some ad) es.length cap/\RepL M σ N w xs es.flatten/\(∀ u∈xs,u.oneCell'=true) /\
   (∀ j u,xs[j]?=some u->¬ M ad.block/\w.cell? (ad.add j)=some u)/\es.length<=cap/\cap<=maxLen/\∀ c∈es,c.length=sz:=by
 generalize e:D.list es=d at h;cases h with
 | listN=>cases e;exact .inl ⟨rfl,rfl⟩
 | list ad cap sz xs es k g b i l a f=>cases e;exact .inr ⟨ad,cap,sz,xs,rfl,⟨i,f⟩,l,a,k,g,b⟩
 | _=>cases e
theorem PL {v:Value}{x:D}{es:UE}(y:Rel M0 H σ w)(i:RepV (dJ M0 H σ) σ H.F w v x)(a:p9 H x=some es) :
  (v=.slice none 0 0/\es=[])\/∃ ad cap xs,v=.slice (some ad) es.length cap/\RepL (dJ M0 H σ) σ H.F w xs es.flatten/\(∀ u∈xs,u.oneCell'=true) /\
   (∀ j u,xs[j]?=some u->w.cell? (ad.add j)=some u)/\es.length<=cap/\cap<=maxLen:=by
 cases x<;>simp only [p9] at a<;>try (cases a;done)
 case nil=>cases a;cases i;exact .inl ⟨rfl,rfl⟩
 case ne =>
  cases a;cases i;rename_i ad cap t
  exact .inr ⟨ad,cap,[],rfl,⟨rfl,λj u d hu=>by simp at hu⟩,by simp,λj u hu=>by simp at hu,eB _,t⟩
 case list es' =>
  cases a
  rcases t6 i with h|⟨ad,cap,C,xs,z,M,L,K,J,I,_⟩
  .exact .inl h
  grind
 case own id n =>
  cases q:H.get id with
  | none=>simp [q] at a
  | some k =>
   simp only [q] at a;split at a
   .rename_i F;cases a
    obtain ⟨o,s,l⟩:=y.ah id k q;obtain ⟨xs,c,m,e⟩:=l.row;cases i
    rename_i G z h;rcases h o s with N|⟨_,rfl⟩
    .have:=l.af;omega
    .rcases c.2 with ⟨f,A⟩|⟨g,cap,B,b,_,_,p,r,_⟩
     .exact .inl ⟨f,bT A⟩
     .exact .inr ⟨⟨g,0,none⟩,cap,xs,b,e,m,c.cells (g:=g) (by simp [b,Value.ownBlock]),p,r⟩
   .cases a
theorem Nt {nid:Nat}(hn:¬ H.F nid){t t' ty:TypeId}{va vb:Value}{x y:D}(hR:Rel M0 H σ w)(hx:RepV (dJ M0 H σ) σ H.F w va x)(hy:RepV (dJ M0 H σ) σ H.F w vb y)
  (b7:(p9 H y).isSome=true) (hc:(kQ P nid t t' x y H).cond):(kQ P nid t t' x y H).X/\OpS P (Builtin.append_ #[t,t'] ty #[va,vb]) M0 H σ w (kQ P nid t t' x y H).val (kQ P nid t t' x y H).heap:=by
 unfold kQ at *;cases hs:sl P t with
 | none=>simp [hs,AOut.bad] at hc
 | some s =>
  cases he:p9 H y with
  | none=>rw [he] at b7;cases b7
  | some E =>
   simp only [hs,he] at hc ⊢;obtain ⟨I,i,z,hi,hz,F,V,c2,c9,d3,d2,b8,d4⟩:=sZ hs;have b6:∀ m:Nat,m<=4294967296->m<=maxLen/\m * s.dh<=140737488355328:=λm hm=>by
    refine ⟨by simp only [maxLen];omega,?_⟩;have:=kA hm c9;omega
   have a2:∀ (v:Value) (n:Nat) (O:List Value),w.ownsRow 0 s.e s.Y v n O->n+E.length<=4294967296->(∀ c∈E,c.length=s.Y)->E.flatten.all D.cell=true ->
     ∃ K w' a,(Builtin.append_ #[t,t] ty #[v,vb]).run P w=.ok K w'/\w'.ownsRow 0 s.e s.Y K (n+E.length) (O++a)/\w.grownBy w' v.ownBlock /\
      RepL (dJ M0 H σ) σ H.F w a E.flatten/\(∀ u∈a,u.oneCell'=true)/\(E.length=0->K=v)/\(∀ b,K.ownBlock=some b->v.ownBlock=some b\/w.heap.size<=b):=by
    intro v n O q a8 C G;rcases PL hR hy he with ⟨rfl,U⟩|⟨ad,Y,a,rfl,r,h1,a1,d7,d6⟩
    .subst U;exact ⟨v,w,[],run_append_owned_none w 0 t ty s.e i s.Y I hi v n O q,by simpa using q,⟨rfl,rfl,rfl,aZ _,λ_ _ _=>rfl⟩,⟨rfl,λj u d I=>by simp at I⟩,by simp,λ_=>rfl,λb X=>.inl X⟩
    .have R:a.length=E.length * s.Y:=r.len.trans (mA E C);by_cases h0:E.length=0
     .have c4:a=[]:=bT (by rw [R,h0];simp);subst c4;have f:(Builtin.append_ #[t,t] ty #[v,.slice (some ad) E.length Y]).run P w=.ok v w:=by
       rw [h0];rcases q.2 with ⟨rfl,rfl⟩|⟨g,N,b0,rfl,_,_,b4,_⟩
       .simp [Builtin.append_,run_underlying I,sizeOf,typeInfo,hi,Builtin.lenOf,Builtin.firstCells,loadCells,loadCellsFrom]
       .simp [Builtin.append_,run_underlying I,sizeOf,typeInfo,hi,Builtin.lenOf,Builtin.firstCells,loadCells,loadCellsFrom,b4,storeCells]
      exact ⟨v,w,[],f,by simpa [h0] using q,⟨rfl,rfl,rfl,aZ _,λ_ _ _=>rfl⟩,r,by simp,λ_=>rfl,λb X=>.inl X⟩
     .obtain ⟨a7,a6⟩:=b6 _ a8;obtain ⟨K,w',f,p,hg,_⟩:=run_append_own (P:=P) w 0 t ty s.e i z s.Y s.dh I hi hz F V b8 c2 v n O q ad E.length Y a R a1 h1 a7 a6 (eB _);refine ⟨K,w',a,f,p,hg,r,h1,λh=>absurd h h0,λb X=>?_⟩;rcases cH b w.heap.size with d5|c6
      .left
       rcases q.2 with ⟨U,hn⟩|⟨g,N,b0,hv,_,c5,b4,d8,c8,c1⟩
       .subst U;subst hn;have c0:O=[]:=bT (eQ q.1);subst c0;have hr:=run_append_nil (P:=P) w t ty s.e i z I hi hz ad E.length Y a (by rw [R,F]) a1 aD (by simp only [maxLen] at a7;omega) (by rw [V];have:=a6;simp only [eR] at this;omega);rw [hr] at f;cases f
        simp [Value.ownBlock] at X;omega
       .subst hv;by_cases T:n+E.length<=N
        .have a9:n * i.size+a.length<=b0.size:=by rw [R,c8,F,<- Nat.add_mul];exact fG _ T
         have hr:=run_append_room (P:=P) w t ty s.e i I hi g n N b0 c5 ad E.length Y a (by rw [R,F]) a1 h1 T a9;rw [hr] at f;cases f
         exact X
        .have a5:∀ j u,O[j]?=some u->w.cell? ((⟨g,0,none⟩:Addr).add j)=some u:=q.cells (g:=g) rfl;have hr:=run_append_grow (P:=P) w t ty s.e i z I hi hz ⟨g,0,none⟩ n N O (by rw [q.1,F]) a5 ad E.length Y a (by rw [R,F]) a1 aD (by simp only [maxLen] at a7;omega) (growslice_fits aD (by rw [V];exact a6));rw [hr] at f;cases f
         simp [Value.ownBlock] at X;omega
      .exact .inr c6
   cases x<;>try (simp [AOut.bad] at hc;done)
   case nil =>
    obtain ⟨rfl,a8,C,G⟩:=hc;cases hx
    obtain ⟨K,w',a,f,p,hg,r,h1,_,W⟩:=a2 _ 0 [] (World.ownsRow_nil w 0 s.e s.Y) aD C G;have hp:=Rel.push hR nid hn (w':=w') hg.os hg.tape hg.output hg.size (λb X=>hg.block b X (by simp [Value.ownBlock])) ⟨s.e,s.Y,E,false⟩ ⟨E.length,K,s.Y,s.e⟩
     (λb X=>by
      rcases W b X with h|h
      .simp [Value.ownBlock] at h
      .exact h) rfl rfl rfl C a (eQ p) h1 r
    refine ⟨trivial,K,w',_,f,hp.1,.own K nid E.length (.inl rfl) ?_ λo ho=>?_,hp.2.1,hp.2.2⟩
    .rcases p.2 with ⟨rfl,_⟩|⟨g,c,cu,rfl,_⟩<;>rfl
    .simp at ho;subst ho;exact .inr ⟨rfl,rfl⟩
   case own id n =>
    cases hk:H.get id with
    | none=>simp [hk,AOut.bad] at hc
    | some k =>
     simp only [hk] at hc ⊢;obtain ⟨rfl,c7,a0,b3,a8,b5,C,G⟩:=hc;obtain ⟨o,ho,l⟩:=hR.ah id k hk;obtain ⟨O,b2,b9,B⟩:=l.row;cases hx
     rename_i d9 hN h;rcases h o ho with h'|⟨_,rfl⟩
     .have:=l.af;omega
     .have M:o.H=s.Y:=l.Y.trans b5;have a4:w.ownsRow 0 s.e s.Y o.val k.U.length O:=by rw [<- a0,<- M];exact b2
      obtain ⟨K,w',a,f,p,hg,r,h1,a3,W⟩:=a2 o.val k.U.length O a4 aD C G;have hp:=Rel.put hR (w':=w') hk c7 ho { k with U:=k.U++E } ⟨k.U.length+E.length,K,s.Y,s.e⟩ hg W
       (by
        by_cases h0:E.length=0
        .left
         have:=l.af;have b1:=a3 h0;obtain ⟨ov,d1,oe,ot⟩:=o;simp only at this b1 M ⊢;have ht:=l.ty;simp only at ht;subst this;subst b1;subst M;rw [ht,a0];simp [h0]
        .right;have:=l.af;simp only;omega)
       dB (by simp [a0]) (by simp [b5])
       (λc hc=>by
        rcases aX.1 hc with h'|h'
        .simpa [<- M] using l.H c h'
        .exact C c h')
       (O++a) (by simpa [a0] using p) (λu I=>by
        rcases aX.1 I with h'|h'
        .exact b9 u h'
        .exact h1 u h')
       ⟨by simp only [aH,mG,B.len,r.len],λj u d I hd=>by
        simp only [mG] at hd;by_cases hj:j<O.length
        .rw [aR hj] at I;rw [aR (by rw [<- B.len];exact hj)] at hd;exact B.Z j u d I hd
        .rw [bF aD] at I;rw [bF (by rw [<- B.len];omega),<- B.len] at hd;exact r.Z _ u d I hd⟩
      have c3:n=k.U.length:=b3.symm;subst c3;refine ⟨trivial,K,w',_,f,hp.1,.own K id _ hN ?_ λo' ho'=>?_,hp.2.1,hp.2.2⟩
      .rcases p.2 with ⟨rfl,_⟩|⟨g,c,cu,rfl,_⟩<;>rfl
      .simp at ho';subst ho';exact .inr ⟨rfl,rfl⟩
end
end Go.Abs
end
section
namespace Go.Abs
section
variable {P:Program} {M0:Nat→Prop} {H:AHeap} {σ:Nat→Option Ow} {w:World}
theorem mP (z:UN)(n:Nat):((List.replicate n z).flatten).length=n * z.length:=by simp_all
theorem zO (z:UN)(n j:Nat)(d:0<z.length)(b:j<n * z.length):((List.replicate n z).flatten)[j]?=z[j % z.length]?:=by
 have a:=nE (n:=z.length) (List.replicate n z) (j / z.length) z (λc hc=>by rw [lI hc])
  (by rw [pB,if_pos (Nat.div_lt_of_lt_mul (by rw [Nat.mul_comm];exact b))]) (j % z.length) (Nat.mod_lt _ d)
 rw [show j / z.length * z.length+j % z.length=j by rw [Nat.mul_comm];exact Nat.div_add_mod _ _] at a;exact a
theorem rN {M:Nat->Prop}{N:Nat->Prop}(z:Value)(n:Nat)(e:0<z.cells.size)(h:(z.cells.toList.map rB).all D.cell=true) :
  RepL M σ N w (madeCells z.cells (n * z.cells.size)).toList (List.replicate n (z.cells.toList.map rB)).flatten/\∀ u∈(madeCells z.cells (n * z.cells.size)).toList,u.oneCell'=true:=by
 obtain ⟨g,i⟩:=G2 (M:=M) (σ:=σ) (N:=N) (w:=w) z.cells.toList h;have a:∀ j u,(madeCells z.cells (n * z.cells.size)).toList[j]?=some u->j<n * z.cells.size/\z.cells.toList[j % z.cells.size]?=some u:=by
  intro j u b;have c:j<n * z.cells.size:=by
   have:=(aP.1 b).1;simpa [size_madeCells] using this
  refine ⟨c,?_⟩;have k:j % z.cells.size<z.cells.size:=Nat.mod_lt _ e;simp [madeCells,c] at b;grind
 refine ⟨⟨by rw [mP];simp [size_madeCells],λj u d b hd=>?_⟩,λu b=>?_⟩
 .obtain ⟨c,f⟩:=a j u b;rw [zO _ n j (eQ e) (eQ c)] at hd;exact g.Z _ u d f (eQ hd)
 .obtain ⟨j,c⟩:=List.mem_iff_getElem?.1 b;exact i u (aL (a j u c).2)
theorem Rm {nid:Nat}(S:¬ H.F nid){t:TypeId}{F G:Value}{l c:D}(W:Rel M0 H σ w)(T:RepV (dJ M0 H σ) σ H.F w F l)(B:RepV (dJ M0 H σ) σ H.F w G c)
  (r:(D0 P nid t l c H).cond):(D0 P nid t l c H).X/\OpS P (Instr.makeSlice t F G) M0 H σ w (D0 P nid t l c H).val (D0 P nid t l c H).heap:=by
 unfold D0 at *;split at r
 .rename_i s _ n _ m O;obtain ⟨rfl,A,R⟩:=r;cases T;cases B
  obtain ⟨K,i,z,V,J,j,p,L,C,a,f,v,x⟩:=sZ O;obtain ⟨k,rfl⟩:=e9 A;have U:k<=4294967296:=aD;have u:i.bytes * k<=281474976710656:=by
   rw [p];have:=kA C U;omega
  obtain ⟨w',g,h,q⟩:=run_make_full (P:=P) w 0 t s.e i z s.Y K V J j _ _ k u (by simp only [maxLen];omega) (eB _);obtain ⟨Q,X⟩:=rN (M:=dJ M0 H σ) (σ:=σ) (N:=H.F) (w:=w) z k aD (by rw [<- a];exact x);have y:=Rel.push W nid S (w':=w') q.os q.tape q.output q.size (λb u=>q.block b u dB) ⟨s.e,s.Y,List.replicate k s.z,false⟩ ⟨k,.slice (some ⟨w.heap.size,0,none⟩) k k,s.Y,s.e⟩
   (λb u=>by simp [Ow.block,Value.ownBlock] at u;omega) dB rfl rfl (λc r=>by rw [lI r,f])
   _ (by simpa [v] using h) X (by simpa [a] using Q)
  refine ⟨trivial,_,w',_,g,y.1,.own _ nid k (.inl rfl) rfl λo ho=>?_,y.2.1,y.2.2⟩;grind
 .exact r.elim
theorem Ad {t K ty e:TypeId}{i:TypeInfo}{z:Value}{kq kn:IntKind}(N:P.underlying t=some (.slice e))(C:P.underlying K=some (.int kn))(Z:P.info? e=some i)(hz:i.zero=some z)
  (M:z.cells.size=i.size) (O:0<i.size) (v:Value) (n:Nat) (xs:List Value) (c:w.ownsRow 0 e i.size v n xs) (m:Nat) (T:∀ u∈(madeCells z.cells (m * z.cells.size)).toList,u.oneCell'=true) (hm:n+m<=4294967296) (a9:n+m<=maxLen) (G:(n+m) * i.bytes<=140737488355328) :
  ∃ v' w',(Builtin.append_ #[t,K] ty #[v,.int kq m]).run P w=.ok v' w'/\w'.ownsRow 0 e i.size v' (n+m) (xs++(madeCells z.cells (m * z.cells.size)).toList)/\w.grownBy w' v.ownBlock /\
   (m=0->v'=v)/\(∀ b,v'.ownBlock=some b->v.ownBlock=some b\/w.heap.size<=b):=by
 have X:∀ k,madeCells z.cells (k * z.cells.size)=Builtin.zeroCells z.cells k:=λk=>rfl;have D:(madeCells z.cells (m * z.cells.size)).toList.length=m * i.size:=by simp [size_madeCells,M]
 obtain ⟨a,j⟩:∃ x,x=(madeCells z.cells (m * z.cells.size)).toList:=⟨_,rfl⟩;rw [<- j] at D ⊢;have s:(xs++a).length=(n+m) * i.size:=by rw [aH,c.1,D,Nat.add_mul]
 have hw:IntKind.i64.wrap (m:Int)=m:=by rw [IntKind.wrap_i64];omega
 have V:¬ ((m:Int)<0):=aD;have Y:m * i.bytes<=281474976710656:=by have:=fG i.bytes (aD:m<=n+m);omega
 have a1:¬ (281474976710656<(m:Int) * (i.bytes:Int)):=by rw [<- Int.natCast_mul];omega
 have uB:∀ (o:Nat),o<n+m->∀ (L:Option Nat),
   (w.drew.alloc (.cells (xs.toArray++Builtin.zeroCells z.cells m++Builtin.zeroCells z.cells (grownCap w (n+m) o e - (n+m))) e)).ownsRow 0 e i.size
    (.slice (some ⟨w.heap.size,0,none⟩) (n+m) (grownCap w (n+m) o e)) (n+m) (xs++a) /\
   w.grownBy (w.drew.alloc (.cells (xs.toArray++Builtin.zeroCells z.cells m++Builtin.zeroCells z.cells (grownCap w (n+m) o e - (n+m))) e)) L:=by
  intro o ho L;have a6:=grownCap_ge w (n+m) o e;have J:grownCap w (n+m) o e<=maxLen:=grownCap_le_maxLen w (n+m) o e a9;have a2:Builtin.zeroCells z.cells m=a.toArray:=by rw [j,<- X]
  rw [a2];refine ⟨⟨s,.inr ⟨w.heap.size,_,_,rfl,eB _,heap_alloc_new w.drew _,a6,J,?_,?_⟩⟩,⟨rfl,rfl,rfl,by simp,λk hk _=>heap_alloc_old w.drew _ hk⟩⟩
  .simp only [Array.size_append,n8,size_zeroCells,M,c.1,D,<- Nat.add_mul];congr 1;omega
  .simp only [Array.toList_append,List.append_assoc];rw [<- List.append_assoc,<- s];exact List.take_left
 by_cases E:m=0
 .subst E;have a5:a=[]:=bT (by rw [D];simp);subst a5;have R:(Builtin.append_ #[t,K] ty #[v,.int kq (0:Nat)]).run P w=.ok v w:=by
   rcases c.2 with ⟨rfl,rfl⟩|⟨g,b0,A,rfl,_,_,W,_⟩
   .simp [Builtin.append_,run_underlying N,run_underlying C,sizeOf,typeInfo,Z,asInt,asIntOf,IntKind.wrap_i64]
   .simp [Builtin.append_,run_underlying N,run_underlying C,sizeOf,typeInfo,Z,asInt,asIntOf,IntKind.wrap_i64,W,storeCells]
  exact ⟨v,w,R,by simpa using c,⟨rfl,rfl,rfl,aZ _,λ_ _ _=>rfl⟩,λ_=>rfl,λb hb=>.inl hb⟩
 .rcases c.2 with ⟨rfl,rfl⟩|⟨g,l,A,rfl,a8,hg,W,J,a7,I⟩
  .have hx:xs=[]:=bT (eQ c.1);subst hx;have S:=Lib.run_append_nil_zeros (P:=P) w t K ty e i z kq kn N C Z hz m aD O aD Y;have y:=uB 0 aD (Value.ownBlock (.slice none 0 0));simp only [eR,dF,Array.empty_append] at y ⊢;exact ⟨_,_,S,y.1,y.2,λh=>absurd h E,λb hb=>.inr (by simp [Value.ownBlock] at hb;omega)⟩
  .by_cases q:n+m<=l
   .have a0:n * i.size+a.length<=A.size:=by rw [D,a7,<- Nat.add_mul];exact fG _ q
    have Q:=run_storeCells_at P g (n * i.size) e a 0 A w hg (eQ a0) (λu hu=>by
     rw [j] at hu;exact T u hu)
    have a3:(Builtin.zeroCells z.cells m).toList=a:=by rw [j,X]
    have a4:¬ (m * i.size=0):=Nat.mul_ne_zero E aD;simp only [uT] at Q;have S:(Builtin.append_ #[t,K] ty #[.slice (some ⟨g,0,none⟩) n l,.int kq m]).run P w=.ok (.slice (some ⟨g,0,none⟩) (n+m) l) (w.setRow g (A.toList.take (n * i.size)++a++A.toList.drop (n * i.size+a.length)).toArray):=by
     simp [Builtin.append_,run_underlying N,run_underlying C,sizeOf,typeInfo,zeroValue,Z,hz,asInt,asIntOf,hw,V,a4,a1,q,Addr.add_lit,a3,Q]
    refine ⟨_,_,S,⟨s,.inr ⟨g,l,_,rfl,a8,setRow_heap w g A _ e _ hg,q,J,?_,?_⟩⟩,⟨rfl,rfl,rfl,by simp,λk _ hk=>setRow_other w g k _ (λe=>hk (by simp [Value.ownBlock,e]))⟩,λh=>absurd h E,λb hb=>.inl hb⟩
    .simp only [n8,aH,c8,jG,gJ];omega
    .rw [I,<- s];exact List.take_left
   .have U:(Builtin.firstCells i.size n (.slice (some ⟨g,0,none⟩) n l)).run P w.drew=.ok xs.toArray w.drew :=
     run_firstCells_some (P:=P) w.drew i.size n ⟨g,0,none⟩ n l xs c.1 (c.cells (g:=g) rfl)
    have S:=Lib.run_append_grow_zeros (P:=P) w t K ty e i z kq kn N C Z hz (some ⟨g,0,none⟩) n l xs U m aD O aD aD Y (growslice_fits aD G);have y:=uB l aD (Value.ownBlock (.slice (some ⟨g,0,none⟩) n l));exact ⟨_,_,S,y.1,y.2,λh=>absurd h E,λb hb=>.inr (by simp [Value.ownBlock] at hb;omega)⟩
theorem Kx {t E ty:TypeId}{s:SlI}{va vb:Value}{x y:D}(hs:sl P t=some s)(hR:Rel M0 H σ w)(hx:RepV (dJ M0 H σ) σ H.F w va x)(hy:RepV (dJ M0 H σ) σ H.F w vb y)
  (q:(qG P s E x y H).cond):(qG P s E x y H).X/\OpS P (Builtin.append_ #[t,E] ty #[va,vb]) M0 H σ w (qG P s E x y H).val (qG P s E x y H).heap:=by
 unfold qG at *;obtain ⟨v,i,z,hi,hz,V,a7,R,a8,f,A,Q,a1⟩:=sZ hs;cases y<;>try (simp [AOut.bad] at q;done)
 rename_i kq m;cases x<;>try (simp [AOut.bad] at q;done)
 rename_i id n;cases K:Rt P E with
 | none=>simp [K,AOut.bad] at q
 | some kn =>
  simp only [K] at q ⊢;cases Y:H.get id with
  | none=>simp [Y,AOut.bad] at q
  | some k =>
   simp only [Y] at q ⊢;obtain ⟨a4,a5,r,U,I,J⟩:=q;obtain ⟨m,rfl⟩:=e9 a4;simp only [Int.toNat_natCast] at I ⊢;have a3:P.underlying E=some (.int kn):=by
    unfold Rt at K;grind
   obtain ⟨o,ho,l⟩:=hR.ah id k Y;obtain ⟨X,B,a2,a⟩:=l.row;cases hx
   rename_i a9 hN h;cases hy
   rcases h o ho with C|⟨_,rfl⟩
   .have:=l.af;omega
   .have b:o.H=s.Y:=l.Y.trans J;rw [<- V] at R A Q b J;have G:w.ownsRow 0 s.e i.size o.val k.U.length X:=by rw [<- r];rw [b] at B;exact B
    have hb:(n+m) * i.bytes<=140737488355328:=by
     have:=kA I (aD:i.bytes<=4096);omega
    obtain ⟨hr,h1⟩:=rN (M:=dJ M0 H σ) (σ:=σ) (N:=H.F) (w:=w) z m aD (by rw [<- f];exact a1);subst U;obtain ⟨Z,w',T,p,hg,F,W⟩:=Ad (P:=P) (ty:=ty) (kq:=kq) v a3 hi hz Q R o.val k.U.length X G m h1 I (by simp only [maxLen];omega) hb;have a0:∀ c∈List.replicate m s.z,c.length=i.size:=λc q=>by rw [lI q,A]
    have hp:=Rel.put hR (w':=w') Y a5 ho { k with U:=k.U++List.replicate m s.z } ⟨k.U.length+m,Z,i.size,s.e⟩ hg W
     (by
      by_cases h0:m=0
      .left
       have:=l.af;have S:=F h0;obtain ⟨ov,a6,oe,ot⟩:=o;simp only at this S b ⊢;have ht:=l.ty;simp only at ht;subst this;subst S;subst b;rw [ht,r];simp [h0]
      .right;have:=l.af;simp only;omega)
     dB (by simp [r]) (by simp [J])
     (λc q=>by
      rcases aX.1 q with C|C
      .simpa [<- b] using l.H c C
      .exact a0 c C)
     (X++(madeCells z.cells (m * z.cells.size)).toList) (by simpa [r] using p) (λu v=>by
      rcases aX.1 v with C|C
      .exact a2 u C
      .exact h1 u C)
     ⟨by simp only [aH,mG,a.len];rw [hr.len,f],λj u d v hd=>by
      simp only [mG] at hd;by_cases hj:j<X.length
      .rw [aR hj] at v;rw [aR (by rw [<- a.len];exact hj)] at hd;exact a.Z j u d v hd
      .rw [bF aD] at v;rw [bF (by rw [<- a.len];omega),<- a.len,f] at hd;exact hr.Z _ u d v hd⟩
    refine ⟨trivial,Z,w',_,T,hp.1,.own Z id _ hN ?_ λo' ho'=>?_,hp.2.1,hp.2.2⟩
    .rcases p.2 with ⟨rfl,_⟩|⟨g,c,cu,rfl,_⟩<;>rfl
    .simp at ho';subst ho';exact .inr ⟨rfl,rfl⟩
theorem Kw {nid:Nat}(l:¬ H.F nid){t a ty:TypeId}{h g:Value}{x y:D}(k:Rel M0 H σ w)(j:RepV (dJ M0 H σ) σ H.F w h x)(i:RepV (dJ M0 H σ) σ H.F w g y)
  (d:(kQ P nid t a x y H).cond):(kQ P nid t a x y H).X/\OpS P (Builtin.append_ #[t,a] ty #[h,g]) M0 H σ w (kQ P nid t a x y H).val (kQ P nid t a x y H).heap:=by
 cases f:p9 H y with
 | some n=>exact Nt l k j i (by rw [f];rfl) d
 | none =>
  cases e:sl P t with
  | none=>unfold kQ at d;simp [e,f,AOut.bad] at d
  | some s =>
   have m:kQ P nid t a x y H=qG P s a x y H:=by unfold kQ;simp only [e,f]
   rw [m] at d ⊢;exact Kx e k j i d
theorem Jo (w:World)(cs:Array Value)(t:TypeId)(j:Nat):(w.alloc (.cells cs t)).cell? ⟨w.heap.size,j,none⟩=cs[j]?:=by simp_all
theorem Pf {M0:Nat->Prop}{nid:Nat}(hn:¬ H.F nid)(hR:Rel M0 H σ w)(m:Bool)(t:TypeId)(cs:Array Value)(ds:UN)(hrep:RepL (dJ M0 H σ) σ H.F w cs.toList ds)(h1:∀ u∈cs.toList,u.oneCell'=true) :
  let d:D:=if m then .ptr nid 1 0 0 else .adr ds
  let H':=if m then H.push nid ⟨t,ds.length,[ds],false⟩ else H
  ∃ σ',Rel M0 H' σ' (w.alloc (.cells cs t))/\RepV (dJ M0 H' σ') σ' H'.F (w.alloc (.cells cs t)) (.pointer (some ⟨w.heap.size,0,none⟩)) d/\Stp σ w σ' (w.alloc (.cells cs t)) /\
   Keeps (dJ M0 H σ) σ H.F w (dJ M0 H' σ') σ' H'.F (w.alloc (.cells cs t)):=by
 have hold:∀ b,b<w.heap.size->(w.alloc (.cells cs t)).heap[b]?=w.heap[b]?:=λ_ hb=>heap_alloc_old _ _ hb;have hl:cs.size=ds.length:=by simpa using hrep.len
 cases m with
 | false =>
  obtain ⟨hR',hS,hK⟩:=Rel.grow hR (w':=w.alloc (.cells cs t)) rfl rfl rfl dB hold;refine ⟨σ,hR',.adr _ cs.toList ds hrep.len h1 (λj u hu=>⟨?_,?_⟩) λj u d hu hd=>(hrep.Z j u d hu hd).q hK,hS,hK⟩
  .rintro (hm|⟨i,k,o,_,_,ho,hb⟩)
   .exact absurd (hR.m0 _ hm) (mS _)
   .exact absurd (hR.lt i o _ ho hb).1 (mS _)
  .rw [jI,eR,Jo];simpa using hu
 | true =>
  simp only [if_true];have hp:=Rel.push hR nid hn (w':=w.alloc (.cells cs t)) rfl rfl rfl dB hold ⟨t,ds.length,[ds],false⟩ ⟨1,.slice (some ⟨w.heap.size,0,none⟩) 1 1,ds.length,t⟩
   (λb hb=>by simp [Ow.block,Value.ownBlock] at hb;omega) rfl rfl rfl dB cs.toList
   (World.ownsRow_lit w cs 1 (eB _) (by simp [maxLen]) (by simp [hl])) h1 (eQ hrep)
  refine ⟨_,hp.1,.ptr _ nid 1 0 0 (.inl rfl) rfl λo ho=>?_,hp.2.1,hp.2.2⟩;simp at ho;subst ho;exact .inr ⟨rfl,_,rfl,by simp⟩
theorem Uv {nid:Nat}(o:¬ H.F nid){m:Bool}{t:TypeId}{d:Value}{x:D}(p:Rel M0 H σ w)(l:RepV (dJ M0 H σ) σ H.F w d x)(g:(NA P nid m t x H).cond) :
  (NA P nid m t x H).X/\OpS P (Instr.box t d) M0 H σ w (NA P nid m t x H).val (NA P nid m t x H).heap:=by
 have c:x.cells.all D.cell=true:=by unfold NA at g;cases m<;>exact g
 obtain ⟨n,q⟩:=A7 l c;obtain ⟨σ',k,j,i,h⟩:=Pf o p m t d.cells x.cells n q;have b:(Instr.box t d).run P w=.ok (.pointer (some ⟨w.heap.size,0,none⟩)) (w.alloc (.cells d.cells t)):=by
  simp [Instr.box,newVar,newRow]
 cases m with
 | false=>exact ⟨trivial,_,_,σ',b,k,j,i,h⟩
 | true=>exact ⟨trivial,_,_,σ',b,k,j,i,h⟩
theorem R5 {t:TypeId}{z:UN}(h:zd P t=some z):∃ de i v,P.underlying t=some de/\P.info? t=some i/\i.zero=some v/\z=v.cells.toList.map rB/\z.length=i.size/\0<i.size/\z.all D.cell=true:=by
 unfold zd at h;split at h
 .rename_i de i d e;split at h
  .rename_i a;cases h
   cases b:i.zero with
   | none=>simp [zW,b] at a;omega
   | some v=>exact ⟨de,i,v,d,e,b,by simp [zW,b],a.1,a.2.1,a.2.2⟩
  .cases h
 .cases h
theorem Qh {nid:Nat}(q:¬ H.F nid){m:Bool}{t:TypeId}(u:Rel M0 H σ w)(s:(y0 P nid m t H).cond) :
  (y0 P nid m t H).X/\OpS P (Instr.alloc t true (.tuple #[])) M0 H σ w (y0 P nid m t H).val (y0 P nid m t H).heap:=by
 unfold y0 at *;cases h:zd P t with
 | none=>simp [h,AOut.bad] at s
 | some z =>
  obtain ⟨C,i,v,y,r,o,rfl,A,B,d⟩:=R5 h;obtain ⟨p,x⟩:=G2 (M:=dJ M0 H σ) (σ:=σ) (N:=H.F) (w:=w) v.cells.toList d;obtain ⟨σ',n,l,k,j⟩:=Pf q u m t v.cells _ p x;have b:(Instr.alloc t true (.tuple #[])).run P w=.ok (.pointer (some ⟨w.heap.size,0,none⟩)) (w.alloc (.cells v.cells t)):=by
   simp [Instr.alloc,zeroValue,typeInfo,r,o,newVar,newRow]
  cases m with
  | false=>exact ⟨trivial,_,_,σ',b,n,l,k,j⟩
  | true=>exact ⟨trivial,_,_,σ',b,n,l,k,j⟩
theorem PI (cs:List Value):∀ (b d:Nat) (zs:Array Value),b+d+cs.length<=zs.size ->
  ((cs.zipIdx d).foldl (λa (p:Value × Nat)=>a.setIfInBounds (b+p.2) p.1) zs).toList=zs.toList.take (b+d)++cs++zs.toList.drop (b+d+cs.length):=by
 induction cs with
 | nil=>intro b d zs h;simp
 | cons c cs ih =>
  intro b d zs h;simp only [List.zipIdx_cons,rT];have i:b+d+(cs.length+1)<=zs.size:=by simpa using h
  rw [ih b (d+1) _ (by simp;omega)];apply fL;intro q;simp only [Array.toList_setIfInBounds,i6,c8,fV,gJ,cF,cT,dA,eZ];have e:min (b+(d+1)) zs.size=b+(d+1):=aD;grind
theorem Ci {M:Nat->Prop}{N:Nat->Prop}(places:Nat->Option (Nat × Nat)):∀ (pv:List (Nat × Value)) (pd:List (Nat × D)) (zs:Array Value) (ds out:UN),
  pv.map (·.1)=pd.map (·.1)->(∀ (j:Nat) (v:Value) (d:D),(pv.map (·.2))[j]?=some v->(pd.map (·.2))[j]?=some d->RepV M σ N w v d)->(∀ p∈pd,p.2.cells.all D.cell=true) ->
  RepL M σ N w zs.toList ds->(∀ u∈zs.toList,u.oneCell'=true)->BJ places ds pd=some out ->
  ∃ cs,Instr.fill places zs pv=some cs/\RepL M σ N w cs.toList out/\(∀ u∈cs.toList,u.oneCell'=true)/\out.length=ds.length
 | [],pd,zs,ds,out,hk,hr,hcl,hz,h1,hf=>by
  cases pd with
  | cons p pd=>simp at hk
  | nil=>simp [BJ] at hf;subst hf;exact ⟨zs,rfl,hz,h1,rfl⟩
 | (i,v) :: pv,pd,zs,ds,out,hk,hr,hcl,hz,h1,hf=>by
  cases pd with
  | nil=>simp at hk
  | cons p pd =>
   obtain ⟨i',d⟩:=p;simp at hk;obtain ⟨rfl,hk⟩:=hk;unfold BJ at hf;unfold Instr.fill;cases hp:places i with
   | none=>simp [hp] at hf
   | some q =>
    obtain ⟨off,size⟩:=q;simp only [hp] at hf ⊢;split at hf
    .rename_i hc;obtain ⟨hc1,hc2⟩:=hc;have hvd:=hr 0 v d rfl rfl;obtain ⟨hrv,hv1⟩:=A7 hvd (hcl (i,d) dB);have hvl:v.cells.size=d.cells.length:=LR hvd (hcl (i,d) dB);have hzl:zs.size=ds.length:=by simpa using hz.len
     have hcond:(v.cells.size≠size||off+v.cells.size > zs.size)=false:=by simp;omega
     have hs:=PI v.cells.toList off 0 zs (by simp;omega);simp only [uT] at hs;have hfold:v.cells.zipIdx.foldl (λcs (x:Value × Nat)=>cs.setIfInBounds (off+x.2) x.1) zs=(v.cells.toList.zipIdx 0).foldl (λcs (x:Value × Nat)=>cs.setIfInBounds (off+x.2) x.1) zs:=by
      rw [<- Array.foldl_toList,Array.toList_zipIdx]
     obtain ⟨cs,hfill,hrep,h1',hlen⟩:=Ci places pv pd (v.cells.zipIdx.foldl (λcs (x:Value × Nat)=>cs.setIfInBounds (off+x.2) x.1) zs) (tQ ds off d.cells) out hk
      (λj u x hu hx=>hr (j+1) u x hu hx) (λp hp=>hcl p (by simp [hp]))
      (by
       rw [hfold,hs];have hvl':v.cells.toList.length=d.cells.length:=by simpa using hvl
       refine ⟨by simp [tQ];omega,λj u x hu hx=>?_⟩;simp only [tQ,i6,c8,cF,cT,gJ,hvl',hzl] at hu hx;split at hx
       .rename_i hj;rw [if_pos hj] at hu;split at hx
        .rename_i hj';rw [if_pos hj'] at hu;exact hz.Z j u x hu hx
        .cases hx
       .rename_i hj;rw [if_neg hj] at hu;split at hx
        .rename_i hj';rw [if_pos hj'] at hu;exact hrv.Z _ u x hu hx
        .rename_i hj';rw [if_neg hj'] at hu;exact hz.Z _ u x hu hx)
      (by
       rw [hfold,hs];intro u hu;simp only [aX] at hu;rcases hu with (hu|hu)|hu
       .exact h1 u (dC hu)
       .exact hv1 u hu
       .exact h1 u (fH hu)) hf
     refine ⟨cs,?_,hrep,h1',by rw [hlen];simp [tQ];omega⟩;simp only [hcond,fA,if_false];exact hfill
    .cases hf
end
end Go.Abs
end
section
namespace Go.Abs
section
variable {P:Program} {M0:Nat→Prop} {H:AHeap} {σ:Nat→Option Ow} {w:World}
structure Parts (M:Nat->Prop) (σ:Nat->Option Ow) (N:Nat->Prop) (w:World) (pv:List (Nat × Value)) (pd:List (Nat × D)):Prop where
 ds:pv.map (·.1)=pd.map (·.1)
 Z:∀ (j:Nat) (v:Value) (d:D),(pv.map (·.2))[j]?=some v->(pd.map (·.2))[j]?=some d->RepV M σ N w v d
theorem P7 {t:TypeId}{m:List (Nat × Value)}{d:List (Nat × D)}(C:Rel M0 H σ w)(s:Parts (dJ M0 H σ) σ H.F w m d)
  (j:(uN P t d H).cond):(uN P t d H).X/\OpS P (Instr.build t m.toArray) M0 H σ w (uN P t d H).val (uN P t d H).heap:=by
 unfold uN at *;cases n:zd P t with
 | none=>simp [n,AOut.bad] at j
 | some z =>
  cases h:bk P t with
  | none=>simp [n,h,AOut.bad] at j
  | some b =>
   simp only [n,h] at j ⊢;cases p:BJ b.bV z d with
   | none=>simp [p,AOut.bad] at j
   | some out =>
    simp only [p] at j ⊢;refine ⟨trivial,?_⟩;obtain ⟨F,i,v,r,B,y,rfl,J,L,g⟩:=R5 n;obtain ⟨A,E⟩:=G2 (M:=dJ M0 H σ) (σ:=σ) (N:=H.F) (w:=w) v.cells.toList g;obtain ⟨u,f,c,q,_⟩:=Ci _ m d v.cells _ out s.ds s.Z (eQ j) A E p;refine .pure C (run_build w t m.toArray u ?_) (.agg u.toList out c.len q c.Z);unfold Program.built;unfold bk at h;rw [r] at h;cases F<;>simp at h
    case array n' e =>
     obtain ⟨G,o,rfl⟩:=h;simp only [B,r,y,o];exact f
    case struct fs =>
     obtain ⟨l,I,rfl⟩:=h;have K:(BK.st l).bV=λx=>l[x]?:=rfl;simp_all
theorem uG (sz:Nat):∀ (n:Nat) (l:UN),(sQ sz n l).length=n
 | 0,_=>rfl
 | n+1,l=>by simp [sQ,uG sz n]
theorem FV (sz:Nat):∀ (n:Nat) (l:UN),l.length=n * sz->(sQ sz n l).flatten=l
 | 0,l,h=>by simp at h;subst h;rfl
 | n+1,l,h=>by
  simp only [sQ,e8];rw [FV sz n _ (by rw [jG,h,Nat.add_mul];omega),List.take_append_drop]
theorem ES (sz:Nat):∀ (n:Nat) (l:UN),l.length=n * sz->∀ c∈sQ sz n l,c.length=sz
 | 0,l,h,c,hc=>by cases hc
 | n+1,l,h,c,hc=>by
  simp only [sQ,aV] at hc;rw [Nat.add_mul] at h;rcases hc with rfl|hc
  .rw [c8];omega
  .exact ES sz n _ (by rw [jG];omega) c hc
theorem ET {nid:Nat}(S:¬ H.F nid){m:Bool}{t:TypeId}{n:Nat}{Y:List (Nat × Value)}{y:List (Nat × D)}(hR:Rel M0 H σ w)(hp:Parts (dJ M0 H σ) σ H.F w Y y)
  (V:(iV P nid m t n y H).cond):(iV P nid m t n y H).X/\OpS P (Instr.buildSlice t n Y.toArray) M0 H σ w (iV P nid m t n y H).val (iV P nid m t n y H).heap:=by
 unfold iV at *;cases hs:sl P t with
 | none=>simp [hs,AOut.bad] at V
 | some s =>
  simp only [hs] at V ⊢;cases hf:BJ (λi=>some (i * s.Y,s.Y)) (List.replicate n s.z).flatten y with
  | none=>simp [hf,AOut.bad] at V
  | some out =>
   simp only [hf] at V ⊢;obtain ⟨O,i,z,hi,hz,E,a4,a5,a6,A,R,Q,a0⟩:=sZ hs;have K:n<=1000/\s.Y<=1000/\(y.all λp=>p.2.cells.all D.cell)=true:=by cases m<;>exact V
   obtain ⟨hn,a1,a2⟩:=K;obtain ⟨hr,h1⟩:=rN (M:=dJ M0 H σ) (σ:=σ) (N:=H.F) (w:=w) z n aD (by rw [<- A];exact a0);rw [<- A] at hr;obtain ⟨v,a,g,X,T⟩:=Ci (λi=>some (i * s.Y,s.Y)) Y y (madeCells z.cells (n * z.cells.size)) _ out hp.ds hp.Z (eQ a2) hr h1 hf;have I:out.length=n * s.Y:=by rw [T,mP,R]
   have U:v.size=n * s.Y:=by have:=g.len;simp at this;omega
   have Z:¬ n * s.Y > 2 ^ 24:=by
    have:=kA hn a1;omega
   have B:(Instr.buildSlice t n Y.toArray).run P w=.ok (.slice (some ⟨w.heap.size,0,none⟩) n n) (w.alloc (.cells v s.e)):=by
    by_cases h0:n * s.Y=0
    .have c:(Array.range (n * s.Y)).map (λx=>(#[]:Array Value)[x % (#[]:Array Value).size]!)=madeCells z.cells (n * z.cells.size):=by
      rw [Q];simp [madeCells,h0,Array.range_zero']
     rw [<- c] at a;simp [Instr.buildSlice,run_underlying O,sizeOf,typeInfo,hi,E,h0] at a ⊢;simp [a,newRow]
    .have c:(Array.range (n * s.Y)).map (λx=>z.cells[x % z.cells.size]!)=madeCells z.cells (n * z.cells.size):=by
      simp [madeCells,Q]
     rw [<- c] at a;have q:¬ 16777216<n * s.Y:=aD;simp [Instr.buildSlice,run_underlying O,sizeOf,typeInfo,hi,E,h0,q,zeroValue,hz,a,newRow]
   have J:=FV s.Y n out I;have C:∀ b,b<w.heap.size->(w.alloc (.cells v s.e)).heap[b]?=w.heap[b]?:=λ_ W=>heap_alloc_old _ _ W;cases m with
   | false =>
    simp only [fA,if_false];obtain ⟨a3,hS,hK⟩:=Rel.grow hR (w':=w.alloc (.cells v s.e)) rfl rfl rfl dB C;refine ⟨trivial,_,_,σ,B,a3,?_,hS,hK⟩;have hv:=RepV.list (M:=dJ M0 H σ) (σ:=σ) (N:=H.F) (w:=w.alloc (.cells v s.e)) ⟨w.heap.size,0,none⟩ n s.Y v.toList (sQ s.Y n out) (by simp [uG]) (by simp only [maxLen];omega)
     (ES s.Y n out I) (by rw [J];exact g.len) X (λj u O=>⟨by
      rintro (hm|⟨i,k,o,_,_,ho,W⟩)
      .exact absurd (hR.m0 _ hm) (mS _)
      .exact absurd (hR.lt i o _ ho W).1 (mS _),by
      rw [jI,eR,Jo];simpa using O⟩) (λj u d O hd=>by rw [J] at hd;exact (g.Z j u d O hd).q hK)
    rw [uG] at hv;exact hv
   | true =>
    simp only [if_true];have G:=Rel.push hR nid S (w':=w.alloc (.cells v s.e)) rfl rfl rfl dB C ⟨s.e,s.Y,sQ s.Y n out,false⟩ ⟨n,.slice (some ⟨w.heap.size,0,none⟩) n n,s.Y,s.e⟩
     (λb W=>by simp [Ow.block,Value.ownBlock] at W;omega) (by simp [uG]) rfl rfl (ES s.Y n out I) v.toList
     (by simp only [uG];exact World.ownsRow_lit w v n (eB _) (by simp only [maxLen];omega) U) X (by simp only;rw [J];exact g)
    refine ⟨trivial,_,_,_,B,G.1,.own _ nid n (.inl rfl) rfl λo ho=>?_,G.2.1,G.2.2⟩;simp at ho;subst ho;exact .inr ⟨rfl,rfl⟩
theorem Sq {v:Value}{e n:Nat}{k:Blk}(t:Rel M0 H σ w)(p:RepV (dJ M0 H σ) σ H.F w v (.own e n))(s:H.get e=some k)(r:k.U.length=n) :
  (v=.slice none 0 0/\n=0)\/∃ b cap,v=.slice (some ⟨b,0,none⟩) n cap/\n<=cap/\cap<=maxLen/\∃ o,σ e=some o/\o.block=some b/\o.H=k.Y/\o.af=n:=by
 obtain ⟨o,j,l⟩:=t.ah e k s;obtain ⟨z,c,m,i⟩:=l.row;cases p
 rename_i B A h;rcases h o j with D|⟨u,rfl⟩
 .have:=l.af;omega
 .rcases c.2 with ⟨d,C⟩|⟨g,cap,x,a,_,_,q,f,_⟩
  .exact .inl ⟨d,aD⟩
  .exact .inr ⟨g,cap,by rw [a,r],aD,f,o,j,by simp [Ow.block,a,Value.ownBlock],l.Y,u.symm⟩
theorem Uf {t ty:TypeId}{l:Value}{x:D}(f:Rel M0 H σ w)(g:RepV (dJ M0 H σ) σ H.F w l x)(d:(GF P t x H).cond) :
  (GF P t x H).X/\OpS P (Builtin.len_ #[t] ty #[l]) M0 H σ w (GF P t x H).val (GF P t x H).heap:=by
 unfold GF at *;split at d
 .rename_i e c;split at d
  .cases g
   exact ⟨trivial,.pure f (by simp [Builtin.len_,run_underlying c,goInt]) (.int _ _)⟩
  .rename_i s;rcases t6 g with ⟨rfl,rfl⟩|⟨u,j,p,o,rfl,_,_,_,i,h,_⟩
   .exact ⟨by simp,.pure f (by simp [Builtin.len_,run_underlying c,goInt]) (.int _ _)⟩
   .refine ⟨?_,.pure f (by simp [Builtin.len_,run_underlying c,goInt]) (.int _ _)⟩;simp only [maxLen] at h;simp only;omega
  .rename_i r n;split at d
   .rename_i k m;rcases Sq f g m d with ⟨rfl,rfl⟩|⟨b,j,rfl,i,h,_⟩
    .exact ⟨by simp,.pure f (by simp [Builtin.len_,run_underlying c,goInt]) (.int _ _)⟩
    .refine ⟨?_,.pure f (by simp [Builtin.len_,run_underlying c,goInt]) (.int _ _)⟩;simp only [maxLen] at h;simp only;omega
   .exact d.elim
  .exact d.elim
 .rename_i c;split at d
  .cases g
   exact ⟨trivial,.pure f (by simp [Builtin.len_,run_underlying c,goInt]) (.int _ _)⟩
  .exact d.elim
 .rename_i n e c;refine ⟨trivial,.pure f ?_ (.int _ _)⟩;simp [Builtin.len_,run_underlying c,goInt]
 .exact d.elim
end
end Go.Abs
end
section
namespace Go.Abs
section
variable {P:Program} {M0:Nat→Prop} {H:AHeap} {σ:Nat→Option Ow} {w:World}
theorem Wv {M:Nat->Prop}{N:Nat->Prop}{v:Value}{cs:UN}(c:Nat)(h:RepV M σ N w v (.adr cs)) :
  ∃ a,v=.pointer (some a)/\RepV M σ N w (.pointer (some (a.add c))) (.adr (cs.drop c)):=by
 obtain ⟨i,f,rfl,b,g,e⟩:=Nw h;refine ⟨i,rfl,.adr _ (f.drop c) _ (by simp [b.len]) (λu hu=>g u (fH hu)) (λj u hu=>?_) λj u d hu hd=>?_⟩
 .rw [cT] at hu;obtain ⟨l,k⟩:=e _ u hu;rw [iL,DW];grind
 .rw [cT] at hu hd;exact b.Z _ u d hu hd
theorem Sl {v:Value}{c ver i a:Nat}{k:Blk}(g:Rel M0 H σ w)(d:RepV (dJ M0 H σ) σ H.F w v (.ptr c ver i a))(f:H.get c=some k)(j:k.U.length=ver) :
  ∃ b o,σ c=some o/\o.block=some b/\v=.pointer (some ⟨b,i * o.H+a,none⟩)/\H.F c/\o.af=ver:=by
 obtain ⟨o,m,l⟩:=g.ah c k f;cases d
 rename_i p n h;have e:o.af=k.U.length:=l.af;grind
theorem F1 {v:Value}{x:D}{c:Nat}(l:Rel M0 H σ w)(h:RepV (dJ M0 H σ) σ H.F w v x)(e:(eO x c H).cond) :
  ∃ a,v=.pointer (some a)/\RepV (dJ M0 H σ) σ H.F w (.pointer (some (a.add c))) (eO x c H).val/\(eO x c H).heap=H/\(eO x c H).X:=by
 unfold eO at *;cases x<;>try (exact e.elim)
 case adr cs =>
  obtain ⟨a,s,r⟩:=Wv c h;grind
 case ptr id ver i o =>
  cases f:H.get id with
  | none=>simp [f,AOut.bad] at e
  | some k =>
   simp only [f] at e ⊢;obtain ⟨b,n,p,q,rfl,m,j⟩:=Sl l h f e;refine ⟨_,rfl,?_,trivial,trivial⟩;rw [jI];refine .ptr _ id ver i (o+c) m rfl λo' ho'=>?_;grind
theorem Gu {t:TypeId}{z:Value}{x:D}{f:Nat}(C:Rel M0 H σ w)(F:RepV (dJ M0 H σ) σ H.F w z x)(k:(iO P t x f H).cond) :
  (iO P t x f H).X/\OpS P (Instr.fieldAt t z f) M0 H σ w (iO P t x f H).val (iO P t x f H).heap:=by
 unfold iO at *;cases m:bk P t with
 | none=>simp [m,AOut.bad] at k
 | some b =>
  cases b with
  | ar p=>simp [m,AOut.bad] at k
  | st l =>
   simp only [m] at k ⊢;cases B:l[f]? with
   | none=>simp [B,AOut.bad] at k
   | some q =>
    obtain ⟨g,p⟩:=q;simp only [B] at k ⊢;obtain ⟨a,rfl,o,J,j⟩:=F1 C F k.1;refine ⟨j,?_⟩;rw [J];unfold bk at m;cases u:P.underlying t with
    | none=>simp [u] at m
    | some L =>
     rw [u] at m;cases L<;>simp at m
     rename_i K;have I:∃ d,K[f]?=some d/\∃ i,P.info? d.type=some i/\g=d.offset/\p=i.size:=by
      have E:∀ (d:List Field) (l:List (Nat × Nat)) (f:Nat),d.mapM (λf=>(P.info? f.type).map λi=>(f.offset,i.size))=some l->l[f]?=some (g,p) ->
        ∃ x,d[f]?=some x/\∃ i,P.info? x.type=some i/\g=x.offset/\p=i.size:=by
       intro d;induction d with
       | nil=>intro l f h A;simp at h;subst h;simp at A
       | cons a d ih =>
        intro l f h A;simp only [List.mapM_cons,Option.bind_eq_bind,Option.pure_def] at h;cases s:P.info? a.type with
        | none=>simp [s] at h
        | some i =>
         cases G:d.mapM (λf=>(P.info? f.type).map λi=>(f.offset,i.size)) with
         | none=>simp [s,G] at h
         | some rest =>
          grind
      grind
     obtain ⟨d,y,i,s,rfl,rfl⟩:=I;have v:i.size≠0:=by have:=k.2;omega
     exact .pure C (by simp [Instr.fieldAt,run_underlying u,y,Instr.sureAddr,fieldPlace,sizeOf,typeInfo,s,v]) o
theorem Qf {t:TypeId}{n sz:Nat}(h:Wt P t=some (n,sz)):∃ e i,P.underlying t=some (.array n e)/\P.info? e=some i/\i.size=sz:=by grind [Wt]
theorem Gr {t:TypeId}{W vi:Value}{x i:D}(R:Rel M0 H σ w)(Q:RepV (dJ M0 H σ) σ H.F w W x)(hi:RepV (dJ M0 H σ) σ H.F w vi i)(B:(iM P t x i H).cond) :
  (iM P t x i H).X/\OpS P (Instr.indexAt t W vi) M0 H σ w (iM P t x i H).val (iM P t x i H).heap:=by
 unfold iM at *;cases i<;>try (exact B.elim)
 rename_i kd n;cases hi
 have L:∀ (x:D),RepV (dJ M0 H σ) σ H.F w W x->(match Wt P t with
   | some (len,sz)=>(⟨(eO x (n.toNat * sz) H).cond/\0<=n/\n<len,(eO x (n.toNat * sz) H).X,(eO x (n.toNat * sz) H).val,(eO x (n.toNat * sz) H).heap⟩:AOut)
   | none=>AOut.bad H).cond->(match Wt P t with
   | some (len,sz)=>(⟨(eO x (n.toNat * sz) H).cond/\0<=n/\n<len,(eO x (n.toNat * sz) H).X,(eO x (n.toNat * sz) H).val,(eO x (n.toNat * sz) H).heap⟩:AOut)
   | none=>AOut.bad H).X/\OpS P (Instr.indexAt t W (.int kd n)) M0 H σ w (match Wt P t with
   | some (len,sz)=>(⟨(eO x (n.toNat * sz) H).cond/\0<=n/\n<len,(eO x (n.toNat * sz) H).X,(eO x (n.toNat * sz) H).val,(eO x (n.toNat * sz) H).heap⟩:AOut)
   | none=>AOut.bad H).val (match Wt P t with
   | some (len,sz)=>(⟨(eO x (n.toNat * sz) H).cond/\0<=n/\n<len,(eO x (n.toNat * sz) H).X,(eO x (n.toNat * sz) H).val,(eO x (n.toNat * sz) H).heap⟩:AOut)
   | none=>AOut.bad H).heap:=by
  intro x Q B;cases ha:Wt P t with
  | none=>simp [ha,AOut.bad] at B
  | some q =>
   obtain ⟨len,sz⟩:=q;simp only [ha] at B ⊢;obtain ⟨h1,K,S⟩:=B;obtain ⟨a,rfl,A,hh,N⟩:=F1 R Q h1;refine ⟨N,?_⟩;rw [hh];obtain ⟨e,i,h,a3,p⟩:=Qf ha;exact .pure R (by simp [Instr.indexAt,run_underlying h,asIntOf,Instr.sureAddr,K,S,sizeOf,typeInfo,a3,p]) A
 cases x<;>try (exact L _ Q B)
 case list es =>
  cases G:sl P t with
  | none=>simp [G,AOut.bad] at B
  | some s =>
   simp only [G] at B ⊢;obtain ⟨⟨h0,h1⟩,K⟩:=B;obtain ⟨h,ti,z,M,hz,p,_,a0,_⟩:=sZ G;obtain ⟨q,rfl⟩:=e9 h0;simp only [Int.toNat_natCast] at K ⊢;have I:q<es.length:=aD;have J:es[q]?=some es[q]:=aA I;rw [J] at K ⊢;simp only [Option.getD_some] at K ⊢;refine ⟨trivial,?_⟩;rcases t6 Q with ⟨rfl,rfl⟩|⟨ad,a5,sz,xs,rfl,A,Z,O,a2,hm,E⟩
   .simp at I
   .have U:sz=s.Y:=(E _ (aC I)).symm.trans K;subst U;have a4:=mA es E;have Y:q * s.Y+s.Y<=xs.length:=by
     rw [A.len,a4];have:(q+1) * s.Y<=es.length * s.Y:=fG _ I;rw [Nat.add_mul] at this;omega
    refine .pure R (v:=.pointer (some (ad.add (q * s.Y)))) (by simp [Instr.indexAt,run_underlying h,asIntOf,I,sizeOf,typeInfo,M,p]) ?_;refine .adr _ ((xs.drop (q * s.Y)).take s.Y) _ (by simp only [c8,jG];omega) (λu h=>Z u (fH (dC h))) (λj u h=>?_) λj u d h hd=>?_
    .rw [cF] at h;split at h
     .rw [cT] at h;obtain ⟨h5,h6⟩:=O _ u h;rw [iL,DW];exact ⟨h5,h6⟩
     .cases h
    .rw [cF] at h;split at h
     .rename_i hj;rw [cT] at h;exact A.Z _ u d h (by rw [nE es q _ E J j hj];exact hd)
     .cases h
 case own id m =>
  cases G:sl P t with
  | none=>simp [G,AOut.bad] at B
  | some s =>
   cases X:H.get id with
   | none=>simp [G,X,AOut.bad] at B
   | some k =>
    simp only [G,X] at B ⊢;obtain ⟨⟨h0,h1⟩,K,S⟩:=B;obtain ⟨h,ti,z,M,hz,p,_,a0,_⟩:=sZ G;obtain ⟨q,rfl⟩:=e9 h0;simp only [Int.toNat_natCast] at S ⊢;have I:q<k.U.length:=aD;have a1:q<m:=aD;refine ⟨trivial,?_⟩;obtain ⟨o,ho,l⟩:=R.ah id k X;have V:o.H=s.Y:=by
     rw [aA I] at S;simp only [Option.getD_some] at S;exact (l.H _ (aC I)).symm.trans S
    have hN:H.F id:=by cases Q;assumption
    rcases Sq R Q X K with ⟨rfl,rfl⟩|⟨b,a5,rfl,a2,hm,o',F,hb,_,T⟩
    .omega
    .rw [ho] at F;cases F
     refine .pure R (v:=.pointer (some ⟨b,q * s.Y,none⟩)) (by simp [Instr.indexAt,run_underlying h,asIntOf,a1,sizeOf,typeInfo,M,p,jI]) ?_;refine .ptr _ id m q 0 hN rfl λo' F=>?_;rw [ho] at F;cases F
     exact .inr ⟨T.symm,b,hb,by rw [V];simp⟩
theorem O4 {i k j:Value}{c a b:D}(g:Rel M0 H σ w)(e:RepV (dJ M0 H σ) σ H.F w i c)(m:RepV (dJ M0 H σ) σ H.F w k a)(l:RepV (dJ M0 H σ) σ H.F w j b)
  (f:(wM c a b H).cond):(wM c a b H).X/\OpS P (do pure (if <- asBool i then k else j)) M0 H σ w (wM c a b H).val (wM c a b H).heap:=by
 unfold wM at *;split at f
 .cases e;cases m
  exact ⟨trivial,.pure g (by simp [asBool]) (.bool _)⟩
 .cases e;cases m
  rename_i h;have:=h f;cases this
  exact ⟨trivial,.pure g (by simp [asBool]) (.bool _)⟩
 .cases e;cases l
  exact ⟨trivial,.pure g (by simp [asBool]) (.bool _)⟩
 .cases e;cases l
  rename_i h;have:=h f;cases this
  exact ⟨trivial,.pure g (by simp [asBool]) (.bool _)⟩
 .exact f.elim
theorem Rg {l n m:Value}{c a b:D}(f:Rel M0 H σ w)(e:RepV (dJ M0 H σ) σ H.F w l c)(k:RepV (dJ M0 H σ) σ H.F w n a)(j:RepV (dJ M0 H σ) σ H.F w m b)
  (i:(AR c a b H).cond):(AR c a b H).X/\OpS P (do pure (if <- asBool l then n else m)) M0 H σ w (AR c a b H).val (AR c a b H).heap:=by
 unfold AR at *;split at i
 .rename_i c a b;cases e;cases k;cases j
  cases c<;>exact ⟨trivial,.pure f (by simp [asBool]) (.bool _)⟩
 .rename_i c a g b;cases e;cases k;cases j
  rename_i h;cases c with
  | true=>exact ⟨trivial,.pure f (by simp [asBool]) (.bool _)⟩
  | false =>
   have:=h (i rfl);cases this
   exact ⟨trivial,.pure f (by simp [asBool]) (.bool _)⟩
 .rename_i c g a b;cases e;cases k;cases j
  rename_i h;cases c with
  | false=>exact ⟨trivial,.pure f (by simp [asBool]) (.bool _)⟩
  | true =>
   have:=h (i rfl);cases this
   exact ⟨trivial,.pure f (by simp [asBool]) (.bool _)⟩
 .rename_i c g a r b;cases e;cases k;cases j
  rename_i p h o q;cases c with
  | false =>
   have:=q (i.2 rfl);cases this
   exact ⟨trivial,.pure f (by simp [asBool]) (.bool _)⟩
  | true =>
   have:=h (i.1 rfl);cases this
   exact ⟨trivial,.pure f (by simp [asBool]) (.bool _)⟩
 .exact O4 f e k j i
theorem Lq {mx:Bool}{b:Builtin}(i:b=if mx then .max else .min){t:TypeId}{ts:Array TypeId}{d c:Value}{x y:D}(f:Rel M0 H σ w)(h:RepV (dJ M0 H σ) σ H.F w d x)(g:RepV (dJ M0 H σ) σ H.F w c y)
  (e:(DZ mx x y H).cond):(DZ mx x y H).X/\OpS P (if mx then Builtin.max_ ts t #[d,c] else Builtin.min_ ts t #[d,c]) M0 H σ w (DZ mx x y H).val (DZ mx x y H).heap:=by
 unfold DZ at *;split at e
 .obtain rfl:=e;cases h;cases g
  cases mx with
  | true=>exact ⟨trivial,.pure f (by simp [Builtin.max_,Builtin.max2]) (.int _ _)⟩
  | false=>exact ⟨trivial,.pure f (by simp [Builtin.min_,Builtin.min2]) (.int _ _)⟩
 .exact e.elim
theorem Kq {s d:TypeId}{h:Value}{x:D}(j:Rel M0 H σ w)(i:RepV (dJ M0 H σ) σ H.F w h x)(b:(nK P s d x H).cond) :
  (nK P s d x H).X/\OpS P (convert s d h) M0 H σ w (nK P s d x H).val (nK P s d x H).heap:=by
 unfold nK at *;split at b
 .rename_i p n;split at b
  .rename_i k c;cases i
   obtain ⟨o,m⟩:=b;obtain ⟨r,g⟩:=lH.1 o;unfold Rt at c;split at c
   .rename_i q l;cases c
    exact ⟨trivial,.pure j (by simp [convert,run_underlying g,run_underlying l,Conv.intToInt,tN m]) (.int _ _)⟩
   .cases c
  .exact b.elim
 .split at b
  .rename_i f e;cases i
   exact ⟨trivial,.pure j (by simp [convert,run_underlying f,run_underlying e]) (.str _)⟩
  .exact b.elim
 .exact b.elim
theorem U0 {b:UnOp}{d:Value}{x:D}(f:Rel M0 H σ w)(e:RepV (dJ M0 H σ) σ H.F w d x)(c:(Ww b x H).cond) :
  (Ww b x H).X/\OpS P (Op.unary b d) M0 H σ w (Ww b x H).val (Ww b x H).heap:=by
 unfold Ww at *;split at c
 .cases e;exact ⟨trivial,.pure f (by simp [Op.unary]) (.bool _)⟩
 .cases e;exact ⟨trivial,.pure f (by simp [Op.unary,Op.intArith];rw [tN (eQ c)]) (by simpa using RepV.int _ _)⟩
 .exact c.elim
theorem Kl {c:Value}{x:D}{i:Nat}(h:Rel M0 H σ w)(e:RepV (dJ M0 H σ) σ H.F w c x)(d:(nJ x i H).cond) :
  (nJ x i H).X/\OpS P (Instr.extract c i) M0 H σ w (nJ x i H).val (nJ x i H).heap:=by
 unfold nJ at *;cases x<;>try (exact d.elim)
 rename_i j;cases e
 rename_i b f k;have g:i<b.length:=by rw [f];exact d
 refine ⟨trivial,.pure h (v:=b[i]) (by simp [Instr.extract,g]) ?_⟩;grind
theorem Ll {nid:Nat}(k:¬ H.F nid){m:Bool}{t:TypeId}{x:Sem Value}(h:Rel M0 H σ w)(g:x.run P w=.ok (.slice none 0 0) w)(l:(E9 P nid m t H).cond) :
  (E9 P nid m t H).X/\OpS P x M0 H σ w (E9 P nid m t H).val (E9 P nid m t H).heap:=by
 unfold E9 at *;cases m with
 | false=>exact ⟨trivial,.pure h g .nil⟩
 | true =>
  cases i:sl P t with
  | none=>simp [i,AOut.bad] at l
  | some s =>
   have f:=Rel.push h nid k (w':=w) rfl rfl rfl (aZ _) (λ_ _=>rfl) ⟨s.e,s.Y,[],false⟩ ⟨0,.slice none 0 0,s.Y,s.e⟩ (λb hb=>by simp [Ow.block,Value.ownBlock] at hb) rfl rfl rfl dB
    [] (World.ownsRow_nil w 0 s.e s.Y) dB ⟨rfl,λj u d hu=>by simp at hu⟩
   refine ⟨trivial,_,w,_,g,f.1,.own _ nid 0 (.inl rfl) rfl λo ho=>?_,f.2.1,f.2.2⟩;grind
theorem Ij {d:Value}{x:D}(j:Rel M0 H σ w)(g:RepV (dJ M0 H σ) σ H.F w d x)(c:(jM x H).cond) :
  ∃ a,d=.pointer (some a)/\(jM x H).X/\RepV (dJ M0 H σ) σ H.F w d (jM x H).val/\(jM x H).heap=H:=by
 unfold jM at *;cases x<;>try (exact c.elim)
 case adr cs =>
  obtain ⟨r,l,rfl,_⟩:=Nw g;grind
 case ptr id ver i o =>
  cases e:H.get id with
  | none=>simp [e,AOut.bad] at c
  | some k =>
   simp only [e] at c ⊢;obtain ⟨b,m,n,p,rfl,q,h⟩:=Sl j g e c;grind
end
end Go.Abs
end
