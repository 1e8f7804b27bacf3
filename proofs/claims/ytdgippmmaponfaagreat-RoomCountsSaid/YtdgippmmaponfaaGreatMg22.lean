/- Contracts of the functions that the law reaches, and plain laws; no conditions but those written at each. -/
import Derived.Test.YtdgippmmaponfaaGreatMg21
namespace Go.Proofs.YtdgippmmaponfaaGreat
open Go.Value renaming bool->μ,slice->δ,pointer->π,agg->θ
open Go.IntKind renaming i64->ι,u8->υ,u16->φ,u32->ω,i32->χ,u64->ψ
set_option linter.unusedSimpArgs false
set_option maxHeartbeats 8000000
set_option linter.unusedVariables false
open Go.RowKit
set_option maxRecDepth 100000
theorem yr {α:Type} [DecidableEq α]: ∀{l m:List α},l.Nodup->(∀x∈l,x∈m)->l.length<=m.length
 | [],m,_,_=>Nat.zero_le _
 | a::l,m,h,k=>by
  rw[List.nodup_cons] at h;have G: ∀x∈l,x∈m.erase a:=λx d=>(List.mem_erase_of_ne (λe=>h.1 (by rw[<-e];exact d))).2 (k x (List.mem_cons_of_mem _ d))
  have H:=yr h.2 G;have I:=List.length_erase_of_mem (k a List.mem_cons_self);have J:0<m.length:=List.length_pos_of_mem (k a List.mem_cons_self);rw[List.length_cons];omega
theorem Xz {m:Bk} {sub i:Int}:i∈xS sub m↔((sub,i),(0:Int))∈m:=by
 unfold xS;rw[List.mem_filterMap];constructor
 ·rintro⟨⟨⟨a,b⟩,v⟩,H,d⟩;simp only at d;split at d
  ·rename_i G;injection d with e
   rw[<-G.1,<-G.2,<-e];exact H
  ·cases d
 ·intro h;exact⟨_,h,η⟩
theorem gZ: ∀{m:Bk} (sub:Int),(m.map Prod.fst).Nodup->(xS sub m).Nodup
 | [],_,_=>List.nodup_nil
 | ((a,b),v)::m,sub,h=>by
  rw[List.map_cons,List.nodup_cons] at h;have G:=gZ sub h.2;unfold xS at G ⊢;rw[List.filterMap_cons];split
  ·exact G
  ·rename_i x d;simp only at d;split at d
   ·rename_i H;injection d with e
    subst e;rw[List.nodup_cons];refine⟨λc=>h.1 ?_,G⟩;have:=(Xz (m:=m) (sub:=sub) (i:=b)).1 c;rw[<-H.1] at this;exact List.mem_map.2 ⟨_,this,rfl⟩
   ·cases d
theorem Kj {m:Bk} (sub:Int) (h:(m.map Prod.fst).Nodup):(jz m sub).Nodup:=(List.mergeSort_perm _ _).nodup_iff.2 (gZ sub h)
theorem Qu {m:Bk} (d:(m.map Prod.fst).Nodup) (sub i:Int):i∈jz m sub↔qh m (sub,i)=some 0:=by
 unfold jz;rw[WG,Xz,DM d]
section
variable {s s':RmS} {n:Nat}
def RmS.heldL (s:RmS):List Int:=s.origins.flatMap λo=>match qh s.strs o with
 | some t=>thJ t.buf.holds
 | none=>[]
theorem Ch (s:RmS):s.heldL.length=s.held:=by
 unfold RmS.heldL RmS.held;rw[List.length_flatMap]
 congr 1
 refine List.map_congr_left λo _=> ?_
 cases qh s.strs o with
 | none=>rfl
 | some t=>simp[thJ]
theorem PG (h:OwO s) (i:Int):i∈s.heldL↔xM s.strs i:=by
 unfold RmS.heldL;rw[List.mem_flatMap];constructor
 ·rintro⟨o,G,d⟩;cases ht:qh s.strs o with
  | none=>rw[ht] at d;simp at d
  | some t=>rw[ht] at d;exact⟨o,t,ht,d⟩
 ·rintro⟨o,t,G,d⟩;refine⟨o, ?_,by rw[G];exact d⟩;unfold RmS.origins;rw[List.mem_filter];exact⟨h.org o t G,by rw[G];rfl⟩
def RmS.inL (s:RmS) (x:Int):Nat:=match qh s.lanes x with
 | some l=>l.A.length+l.B.length+l.C.length
 | none=>0
theorem ZV (h:OwO s) (G:(s.book.map Prod.fst).Nodup) (x:Int):
  s.inL x<=(jz s.book x).length/\(jz s.book x).length<=s.inL x+s.held/\((∀l,qh s.lanes x=some l->l.gone=true)->(jz s.book x).length=0):=by
 refine⟨?_, ?_,λI=> ?_⟩
 ·unfold RmS.inL;cases hl:qh s.lanes x with
  | none=>exact Nat.zero_le _
  | some l=>
   simp only;have:=yr (m:=jz s.book x) (h.sub x l hl).2.2 (λi hi=>(Qu G x i).2 (h.owd x l hl i hi).1);unfold xI at this;simp only[List.length_append,List.length_map] at this;omega
 ·have key: ∀i∈jz s.book x,i∈(match qh s.lanes x with | some l=>xI l | none=>[])++s.heldL:=λi hi=>by
   obtain⟨l,H,_,_,d⟩:=h.src x i ((Qu G x i).1 hi);rw[H];rcases d with d | d | d
   ·exact List.mem_append_left _ d
   ·exact List.mem_append_right _ ((PG h i).2 d)
   ·exact d.elim
  have:=yr (Kj x G) key;rw[List.length_append,Ch] at this;unfold RmS.inL;cases hl:qh s.lanes x with
  | none=>rw[hl] at this;simpa using this
  | some l=>
   rw[hl] at this;unfold xI at this;simp only[List.length_append,List.length_map] at this;exact this
 ·cases hp:jz s.book x with
  | nil=>rfl
  | cons i L=>
   obtain⟨l,H,d,_⟩:=h.src x i ((Qu G x i).1 (by rw[hp];exact List.mem_cons_self));rw[I l H] at d;cases d
structure wN (s:RmS):Prop where
 open_:s.closed=false->s.ret=[]
 vals: ∀w v,qh s.ret w=some v->v=true/\w∈s.workers
 rd:(qh s.ret (0,0)).isSome=true->s.queue=[]
 jt:(qh s.ret (1,0)).isSome=true->(qh s.ret (0,0)).isSome=true/\ ∀o t,qh s.strs o=some t->t.buf.holds=[]
 ch: ∀x,(qh s.ret (2,x)).isSome=true->(qh s.ret (1,0)).isSome=true/\ ∀l,qh s.lanes x=some l->l.A=[]
 rw: ∀x,(qh s.ret (3,x)).isSome=true->(qh s.ret (2,x)).isSome=true/\ ∀l,qh s.lanes x=some l->l.B=[]
 wr: ∀x,(qh s.ret (4,x)).isSome=true->(qh s.ret (3,x)).isSome=true/\ ∀l,qh s.lanes x=some l->l.C=[]
theorem wN.nil (h:s.ret=[]):wN s:=by
 have e: ∀w,qh s.ret w=none:=λw=>by rw[h];rfl
 exact⟨λ_=>h,λw v a=>(by rw[e] at a;cases a),λa=>(by rw[e] at a;cases a),λa=>(by rw[e] at a;cases a),λx a=>(by rw[e] at a;cases a),λx a=>(by rw[e] at a;cases a),λx a=>(by rw[e] at a;cases a)⟩
theorem Us (h:s.closed=false) (d:s.ret=[]) (w:Og) (acc:Bool):(s.stepW w acc).ret=[]:=by
 unfold RmS.stepW;rw[if_neg (by rw[h];decide)];split
 ·unfold RmS.read;cases s.queue with
  | nil=>exact d
  | cons b q=>
   simp only;split
   ·unfold RmS.tell;split
    ·exact(ko _ _).ret.trans d
    ·exact d
   ·unfold RmS.media;split
    ·cases qh s.tab.o (jl b).1.sc with
     | none=>exact d
     | some o=>
      unfold RmS.accept;simp only;cases qh s.strs o<;>exact d
    ·exact d
 ·split
  ·exact(kr s).ret.trans d
  ·split
   ·exact(vu s _).ret.trans d
   ·split
    ·exact(yA s _).ret.trans d
    ·unfold RmS.write;cases qh s.lanes w.2<;>exact d
theorem mem_workers {s:RmS} {w:Og}:w∈s.workers↔w=(0,0)∨w=(1,0)∨((w.1=2∨w.1=3∨w.1=4)/\w.2∈subIds/\(qh s.lanes w.2).isSome=true):=by
 unfold RmS.workers yp RmS.there;obtain⟨a,b⟩:=w;simp only[List.mem_cons,List.mem_flatMap,List.mem_filter,decide_eq_true_eq,List.not_mem_nil,or_false,Prod.mk.injEq];constructor
 ·rintro(h | h | ⟨x,⟨d,H,G⟩,I⟩)
  ·exact Or.inl h
  ·exact Or.inr (Or.inl h)
  ·rcases I with ⟨rfl,rfl⟩ | ⟨rfl,rfl⟩ | ⟨rfl,rfl⟩
   ·exact Or.inr (Or.inr ⟨Or.inl rfl,d,G⟩)
   ·exact Or.inr (Or.inr ⟨Or.inr (Or.inl rfl),d,G⟩)
   ·exact Or.inr (Or.inr ⟨Or.inr (Or.inr rfl),d,G⟩)
 ·rintro(h | h | ⟨d,H,G⟩)
  ·exact Or.inl h
  ·exact Or.inr (Or.inl h)
  ·refine Or.inr (Or.inr ⟨b,⟨H,H,G⟩, ?_⟩);rcases d with rfl | rfl | rfl
   ·exact Or.inl ⟨rfl,rfl⟩
   ·exact Or.inr (Or.inl ⟨rfl,rfl⟩)
   ·exact Or.inr (Or.inr ⟨rfl,rfl⟩)
theorem gV (h: ∀x,(qh s'.lanes x).isSome=(qh s.lanes x).isSome):s'.workers=s.workers:=by
 unfold RmS.workers RmS.there;rw[List.filter_congr (λx _=>h x)]
theorem Qc (L:List Int): ∀s:RmS,(L.foldl RmS.drain1 s).lanes=s.lanes/\(L.foldl RmS.drain1 s).strs=s.strs:=by
 induction L with
 | nil=>intro s;exact⟨rfl,rfl⟩
 | cons x L ih=>intro s;rw[List.foldl_cons,(ih _).1,(ih _).2];exact⟨rfl,rfl⟩
theorem Ko (s:RmS) (o:Og):(s.drainO o).lanes=s.lanes/\ ∀d t,qh (s.drainO o).strs d=some t->(d=o/\t.buf.holds=[])∨(d≠o/\qh s.strs d=some t):=by
 unfold RmS.drainO;cases ht:qh s.strs o with
 | none=>exact⟨rfl,λd t h=>Or.inr ⟨(λe=>by rw[e,ht] at h;cases h),h⟩⟩
 | some u=>
  simp only;rw[(Qc _ _).1,(Qc _ _).2];refine⟨rfl,λd t h=> ?_⟩;simp only at h;rw[qF] at h;split at h
  ·rename_i e;injection h with e2
   subst e2;exact Or.inl ⟨e,XG _ _ (Nat.le_refl _)⟩
  ·rename_i e;exact Or.inr ⟨e,h⟩
theorem Qb: ∀(L:List Og) (s:RmS),(L.foldl RmS.drainO s).lanes=s.lanes/\ ∀o t,qh (L.foldl RmS.drainO s).strs o=some t->t.buf.holds=[]∨(o∉L/\qh s.strs o=some t)
 | [],s=>⟨rfl,λo t h=>Or.inr ⟨η,h⟩⟩
 | o1::L,s=>by
  rw[List.foldl_cons];obtain⟨G,H⟩:=Qb L (s.drainO o1);obtain⟨I,J⟩:=Ko s o1;refine⟨G.trans I,λo t h=> ?_⟩;rcases H o t h with a | ⟨a,b⟩
  ·exact Or.inl a
  ·rcases J o t b with ⟨_,c⟩ | ⟨c,d⟩
   ·exact Or.inl c
   ·exact Or.inr ⟨λe=>(List.mem_cons.1 e).elim c a,d⟩
theorem UM {w:Og} (h:s.may w=true) (d:s.closed=true):w∈s.workers/\(qh s.ret w).getD false=false:=by
 unfold RmS.may at h;rw[Bool.and_eq_true,if_pos d] at h;exact⟨of_decide_eq_true h.1,by simpa using h.2⟩
theorem UU (N:OwO s) {w:Og} (U:w∈s.workers):
  (w=(0,0)->(s.drain w).queue=[])/\(s.queue=[]->(s.drain w).queue=[])/\
  (w=(1,0)-> ∀o t,qh (s.drain w).strs o=some t->t.buf.holds=[])/\((∀o t,qh s.strs o=some t->t.buf.holds=[])-> ∀o t,qh (s.drain w).strs o=some t->t.buf.holds=[])/\
  (∀x l',qh (s.drain w).lanes x=some l'-> ∃l,qh s.lanes x=some l/\(l.A=[]∨w=(2,x)->l'.A=[])/\(l.B=[]∨w=(3,x)->l'.B=[])/\(l.C=[]∨w=(4,x)->l'.C=[])):=by
 obtain⟨a,b⟩:=w;have I: ∀x l',qh s.lanes x=some l'-> ¬((a=2∨a=3∨a=4)/\b=x)-> ∃l,qh s.lanes x=some l/\(l.A=[]∨(a,b)=(2,x)->l'.A=[])/\(l.B=[]∨(a,b)=(3,x)->l'.B=[])/\(l.C=[]∨(a,b)=(4,x)->l'.C=[]):=by
  intro x l' G H;refine⟨l',G,λe=>e.elim id λe=> ?_,λe=>e.elim id λe=> ?_,λe=>e.elim id λe=> ?_⟩
  ·injection e with e1 e2;exact absurd ⟨Or.inl e1,e2⟩ H
  ·injection e with e1 e2;exact absurd ⟨Or.inr (Or.inl e1),e2⟩ H
  ·injection e with e1 e2;exact absurd ⟨Or.inr (Or.inr e1),e2⟩ H
 unfold RmS.drain;by_cases h0:a=0
 ·rw[if_pos h0];refine⟨λ_=>rfl,λ_=>rfl,λe=> ?_,λe=>e,λx l' G=>I x l' G (λc=>by omega)⟩;injection e with e1 e2
  omega
 ·rw[if_neg h0];by_cases h1:a=1
  ·rw[if_pos h1];obtain⟨Y,aa⟩:=Qb s.origins s;have J:(s.origins.foldl RmS.drainO s).queue=s.queue:=(za vn _ s).queue;refine⟨λe=> ?_,λe=>J.trans e,λ_ o t M=> ?_,λ_ o t M=> ?_,λx l' G=>I x l' (by rw[<-Y];exact G) (λc=>by omega)⟩
   ·injection e with e1 e2
    omega
   all_goals
    rcases aa o t M with c | ⟨c,d⟩
    ·exact c
    ·exact absurd (by unfold RmS.origins;rw[List.mem_filter];exact⟨N.org o t d,by rw[d];rfl⟩) c
  ·rw[if_neg h1];have J:(s.drainL (a,b)).queue=s.queue:=(vt s (a,b)).queue;have O:(s.drainL (a,b)).strs=s.strs:=by
    unfold RmS.drainL;cases qh s.lanes (a,b).2<;>rfl
   refine⟨λe=> ?_,λe=>J.trans e,λe=> ?_,λe=>by rw[O];exact e,λx l' G=> ?_⟩
   ·injection e with e1 e2
    omega
   ·injection e with e1 e2
    omega
   ·have ab:a=2∨a=3∨a=4:=by
     rcases mem_workers.1 U with e | e | e
     ·injection e with e1 e2;omega
     ·injection e with e1 e2;omega
     ·exact e.1
    unfold RmS.drainL at G;cases hb:qh s.lanes (a,b).2 with
    | none=>
     rw[hb] at G;simp only at G hb;refine I x l' G (λc=> ?_);rw[c.2,G] at hb;cases hb
    | some m=>
     rw[hb] at G;simp only at G hb;rw[qF] at G;split at G
     ·rename_i e;injection G with e2
      subst e2 e;refine⟨m,hb,λe=> ?_,λe=> ?_,λe=> ?_⟩
      ·unfold vh;simp only;split
       ·rfl
       ·rename_i H;rcases e with e | e
        ·exact e
        ·injection e with e1 e2
         rw[e1] at H;exact absurd rfl H
      ·unfold vh;simp only;split
       ·rfl
       ·rename_i H;rcases e with e | e
        ·exact e
        ·injection e with e1 e2
         rw[e1] at H;exact absurd rfl H
      ·unfold vh;simp only;split
       ·rfl
       ·rename_i H;rcases e with e | e
        ·exact e
        ·injection e with e1 e2
         rw[e1] at H;exact absurd rfl H
     ·rename_i e;exact I x l' G (λc=>e c.2.symm)
theorem uF (s:RmS) (w:Og):(∀x,(qh (s.drain w).lanes x).isSome=(qh s.lanes x).isSome)/\(s.drain w).ret=s.ret/\(s.drain w).closed=s.closed:=by
 unfold RmS.drain;split
 ·exact⟨λ_=>rfl,rfl,rfl⟩
 ·split
  ·have h:=za vn s.origins s;exact⟨λx=>yt (h.lanes x),h.ret,h.closed⟩
  ·have h:=vt s w;exact⟨λx=>yt (h.lanes x),h.ret,h.closed⟩
theorem wN.endW (h:wN s) (am:OwO s) (aa:s.closed=true) {w:Og} (al:s.may w=true):wN (s.endW w):=by
 obtain⟨af,ap⟩:=UM al aa;obtain⟨ai,ab,aj,ac,M⟩:=UU am af;obtain⟨ad,O,ae⟩:=uF s w;have ak:wN (s.drain w):=by
  refine⟨(λc=>by rw[ae,aa] at c;cases c),λw' v a=> ?_,λa=>ab (h.rd (by rw[<-O];exact a)),λa=> ?_,λx a=> ?_,λx a=> ?_,λx a=> ?_⟩
  ·rw[O] at a;obtain⟨ag,ah⟩:=h.vals w' v a;exact⟨ag,by rw[gV ad];exact ah⟩
  ·rw[O] at a ⊢;exact⟨(h.jt a).1,ac (h.jt a).2⟩
  ·rw[O] at a ⊢;refine⟨(h.ch x a).1,λl' d=> ?_⟩;obtain⟨l,G,H,I,J⟩:=M x l' d;exact H (Or.inl ((h.ch x a).2 l G))
  ·rw[O] at a ⊢;refine⟨(h.rw x a).1,λl' d=> ?_⟩;obtain⟨l,G,H,I,J⟩:=M x l' d;exact I (Or.inl ((h.rw x a).2 l G))
  ·rw[O] at a ⊢;refine⟨(h.wr x a).1,λl' d=> ?_⟩;obtain⟨l,G,H,I,J⟩:=M x l' d;exact J (Or.inl ((h.wr x a).2 l G))
 unfold RmS.endW;split
 ·rename_i U;have N: ∀w',(qh (qx s.ret w true) w').isSome=(decide (w'=w)||(qh s.ret w').isSome):=λw'=>by
   rw[qF];by_cases e:w'=w
   ·rw[if_pos e,decide_eq_true e];rfl
   ·rw[if_neg e,decide_eq_false e];rfl
  have Y: ∀v:Og,vi w=(v,true)->(qh s.ret v).isSome=true:=λv an=>by
   unfold RmS.goesR at U;rw[an] at U;simp only[Bool.not_true,Bool.false_or] at U;cases hr:qh s.ret v with
   | none=>rw[hr] at U;cases U
   | some b=>rfl
  refine⟨(λc=>by simp only at c;rw[ae,aa] at c;cases c),λw' v a=> ?_,λa=> ?_,λa=> ?_,λx a=> ?_,λx a=> ?_,λx a=> ?_⟩
  ·simp only at a;rw[qF] at a;have ao:({s.drain w with ret:=qx s.ret w true}:RmS).workers=s.workers:=gV ad;rw[ao];split at a
   ·rename_i e;injection a with e4
    exact⟨e4.symm,by rw[e];exact af⟩
   ·exact h.vals w' v a
  ·simp only at a ⊢;rw[N] at a;by_cases e:((0,0):Og)=w
   ·exact ai e.symm
   ·rw[decide_eq_false e,Bool.false_or] at a;exact ab (h.rd a)
  ·simp only at a ⊢;rw[N] at a;rw[N];by_cases e:((1,0):Og)=w
   ·refine⟨?_,aj e.symm⟩;rw[Y (0,0) (by rw[<-e];rfl),Bool.or_true]
   ·rw[decide_eq_false e,Bool.false_or] at a;exact⟨by rw[(h.jt a).1,Bool.or_true],ac (h.jt a).2⟩
  ·simp only at a ⊢;rw[N] at a;rw[N];by_cases e:((2,x):Og)=w
   ·refine⟨?_,λl' d=> ?_⟩
    ·rw[Y (1,0) (by rw[<-e];rfl),Bool.or_true]
    ·obtain⟨l,G,H,I,J⟩:=M x l' d;exact H (Or.inr e.symm)
   ·rw[decide_eq_false e,Bool.false_or] at a;refine⟨by rw[(h.ch x a).1,Bool.or_true],λl' d=> ?_⟩;obtain⟨l,G,H,I,J⟩:=M x l' d;exact H (Or.inl ((h.ch x a).2 l G))
  ·simp only at a ⊢;rw[N] at a;rw[N];by_cases e:((3,x):Og)=w
   ·refine⟨?_,λl' d=> ?_⟩
    ·rw[Y (2,x) (by rw[<-e];rfl),Bool.or_true]
    ·obtain⟨l,G,H,I,J⟩:=M x l' d;exact I (Or.inr e.symm)
   ·rw[decide_eq_false e,Bool.false_or] at a;refine⟨by rw[(h.rw x a).1,Bool.or_true],λl' d=> ?_⟩;obtain⟨l,G,H,I,J⟩:=M x l' d;exact I (Or.inl ((h.rw x a).2 l G))
  ·simp only at a ⊢;rw[N] at a;rw[N];by_cases e:((4,x):Og)=w
   ·refine⟨?_,λl' d=> ?_⟩
    ·rw[Y (3,x) (by rw[<-e];rfl),Bool.or_true]
    ·obtain⟨l,G,H,I,J⟩:=M x l' d;exact J (Or.inr e.symm)
   ·rw[decide_eq_false e,Bool.false_or] at a;refine⟨by rw[(h.wr x a).1,Bool.or_true],λl' d=> ?_⟩;obtain⟨l,G,H,I,J⟩:=M x l' d;exact J (Or.inl ((h.wr x a).2 l G))
 ·exact ak
end
section
open _root_.Go.Proofs.Tryz
section
variable {T:Nat->Tg} {w0 w w':World} {k:RmK} {vp vr:Value} {s:RmS} {F:List Nat}
theorem Hp (h:RmX T w0 w k vp vr s F):Calls prog 44 #[γ k.RQ] w λe w'=>e= .returned (ι s.queue.length)/\qa w w':=by
 obtain⟨f,Q,H,I,d,G,css,g,a⟩:=h.que;refine(Ng g).mono ?_;rintro e w' ⟨rfl,rfl⟩;exact⟨by rw[a.len],qa.refl _⟩
def vc (s:RmS) (i:Nat):List Int:=(subIds.take i).filter λx=>(qh s.lanes x).isSome
theorem Uk (s:RmS) (i:Nat):(vc s i).length<=6:=Nat.le_trans (List.length_filter_le _ _) (by rw[List.length_take];show min i 6<=6;omega)
theorem Xr (h:RmX T w0 w k vp vr s F):Calls prog 18 #[γ k.R] w λe w'=> ∃oa cap,e= .returned (δ oa s.workers.length cap)/\JQ w' oa s.workers/\qa w w':=by
 obtain⟨aA,hi,ax,ay,az⟩:=info_parts (P:=prog) (e:=3) (z:= ι 0) (size:=1) (bytes:=8) ξ;have J:=κ h;have aa:=κ (Uk s);clear h
 go_enter func18,ntmps18
 go_wp2
 go_loopw [3,7] (λu N wr=> ∃i:Nat,i<=6/\N= ι i/\(∃ak aj ab,u= δ ak aj ab)/\wr.ownsRow w.heap.size 3 1 u (vc s i).length ((vc s i).map (Value.int .i64))/\qa w wr) (λ_ N _=>6-(intOf N).toNat)
 case atStart=>exact⟨0,τ,rfl,⟨_,_,_,rfl⟩,World.ownsRow_nil _ _ _ _,qa.refl _⟩
 case round=>
  obtain⟨i,aE,rfl,⟨ak,aj,ab,rfl⟩,ag,af⟩:=hrel;have H:=κ ag;have d:=κ af;clear ag af;by_cases hlt:i<6
  ·have av:(i:Int)<6:=by omega
   have Y:=κ (Vo hlt);have aB:=β12 (qc d.o J.o.blk);have q:(Instr.lookup 83 (.map (some k.ML)) (ι (i:Int)) true).run prog wr= .ok (.tuple #[Gh (qh k.LA (i:Int)),μ (qh k.LA (i:Int)).isSome]) wr:=xq (J.o.lnm.more d.o) (i:Int) true;have G:=(J.o.all (.lane (i:Int))).2;have aw:=aa.o i;cases hg:qh k.LA (i:Int) with
   | none=>
    rw[hg] at G q;have I:Hid (vc s (i+1)=vc s i):=κ (by unfold vc;rw[Y.o,List.filter_append,List.filter_cons,if_neg (by rw[<-G];decide)];simp);clear G hg;go_wp2;go_roundw
    case rel=>exact⟨i+1,τ,by go_num,⟨_,_,_,rfl⟩,by rw[I.o];exact H.o,d.o⟩
    case measure=>simp[intOf];omega
   | some p=>
    rw[hg] at G q;have I:Hid (vc s (i+1)=vc s i++[(i:Int)]):=κ (by unfold vc;rw[Y.o,List.filter_append,List.filter_cons,if_pos (by rw[<-G];rfl)];simp);obtain⟨M,ae⟩:=ν (vc s i);rw[ae] at I H aw;clear G hg ae
    go_wp2_with (at_builtin;(refine qU _ rfl (.tmp 20) (.tmp 22) 75 rfl w.heap.size 3 aA (ι 0) 8 underlying75 hi ax ay az rfl _ .i64 M rfl (H.o.alloc _) _ [(i:Int)] rfl (SlI.lit .i64 wr [(i:Int)] 3 _ 1 _ η rfl η η) (by simp;omega) ζ (by have:=d.o.size;simp;omega) ?_;intro v6 w6 O ad _;have ao:=κ O;have an:Hid (qa w w6):=κ (Below.grown (d.o.al _) ad (d.o.al _).size (λb au=>jS H.o au));obtain⟨aF,aC,ac⟩:=xl O;rw[show (M++[(i:Int)]).length=M.length+1 from by simp] at ac;subst ac;clear O ad))
    go_roundw
    case rel=>exact⟨i+1,τ,by go_num,⟨_,_,_,rfl⟩,by rw[I.o];exact ao.o,an.o⟩
    case measure=>simp[intOf];omega
  ·obtain rfl:i=6:=by omega
   have av: ¬((6:Nat):Int)<6:=by omega
   have U:=κ (KF (SlI.of_owns H.o (by have:=aa.o 6;omega)));have ap:Hid (yp (vc s 6)=s.workers):=κ rfl;rw[ap.o] at U
   go_wp2_with (go_at_call 66;(go_call U.o as e w2 ⟨v2,rfl,am,ai⟩;obtain⟨aG,aD,rfl,ah⟩:=LP am;have aq:=κ ah;have ar:=κ ai;clear am ah ai))
   go_ret;exact⟨_,_,rfl,aq.o,d.o.trans ar.o⟩
theorem LI (h:RmX T w0 w k vp vr s F) (aA:xz s.clock) (w1 w2:Int):
  Calls prog 17 #[γ k.R,θ #[ι w1,ι w2]] w λe w'=>e= .returned (μ (s.may (w1,w2)))/\qa w w':=by
 obtain⟨W1,O⟩:=ν (w.alloc (.cells #[ι w1,ι w2] 36));have M1:Hid (qa w W1):=κ (by rw[<-O];exact qa.alloc _ _);have ap:Hid (W1.heap[w.heap.size]? =some (.cells #[ι w1,ι w2] 36 (0,0))):=κ (by rw[<-O];exact qj w _);have av:=κ (h.on M1.o);have aN:=κ aA;obtain⟨c,U⟩:=ν (decide ((w1,w2)∈s.workers));obtain⟨ax,ak⟩:=ν (s.closed);have ad:Hid (s.may (w1,w2)=(c&&(if ax then !((qh s.ret (w1,w2)).getD false) else s.mayOpen (w1,w2)))):=κ (by unfold RmS.may;rw[U,ak]);have aL:=κ ak;have aP:=κ (λ(h:c=true)=>of_decide_eq_true (U.trans h));have au:=κ (Xr (av.o.on (qa.drewN W1 1)));have ag:=λ(x:qt W1)=>qc x.h ap.o
 have ab:=λx=>β0 (ag x);have ac:=λx=>β1 (ag x);clear ag
 have aq:Hid (∀w' Y cap,JQ w' Y s.workers->Calls prog 62 #[δ Y s.workers.length cap,θ #[ι w1,ι w2]] w' λe w''=>e= .returned (μ c)/\qa w' w''):=κ (λw' Y cap aT=>by rw[<-U];exact MH w1 w2 aT);clear h aA U ak
 go_enter func17,ntmps17
 go_upto_region 1 with fail
 (try rw[O])
 clear O;refine zC W1 5 [(0,false),(2,false),(1,true),(3,true),(4,false)] ξ ξ ?_
 refine Qq2 ?_
 (refine Ql ?_;intro K d)
 (with_reducible refine au.o.mono ?_)
 rintro e aY ⟨Y,cap,rfl,aH,aI⟩;have aR:=κ aH;have aw:Hid (qa W1 aY):=κ ((qa.drewN W1 1).trans aI);clear aH aI;refine⟨_,rfl,qk aw.o,d _ _ ?_⟩;clear d K
 (refine Ql ?_;intro K d)
 go_call aq.o _ _ _ aR.o as e w4 ⟨rfl,aJ⟩;have G:Hid (qa W1 w4):=κ (aw.o.trans aJ);clear aJ;refine⟨_,rfl,qk G.o,d _ _ ?_⟩;clear d K
 iterate 1 (refine qE rfl rfl (qk G.o) ?_;intro K d;go_big_quiet_op;go_big_quiet_on)
 refine qA ?_;clear ab ac au aq;have H:=κ (av.o.on G.o);have aa:=κ (qc G.o ap.o);have aS:=β7 H.o.blk;rw[aL.o] at aS;cases c with
 | false=>
  go_wp2;go_ret;exact⟨by rw[ad.o];rfl,M1.o.trans G.o⟩
 | true=>
  have aQ:=κ (mem_workers.1 (aP.o rfl));cases ax with
  | true=>
   have N:Hid (s.may (w1,w2)= !((qh s.ret (w1,w2)).getD false)):=κ (by rw[ad.o];rfl);obtain⟨aW,ao⟩:=ν ((qh s.ret (w1,w2)).getD false);rw[ao] at N;have ba:=λ(x:qt w4)=>β8 (qc x.h H.o.blk)
   have ah:=λ(x:qt w4)=>qc x.h aa.o
   have ab:=λx=>β0 (ah x);have ac:=λx=>β1 (ah x);clear ah
   have bc: ∀x:qt w4,(Instr.lookup 80 (.map (some k.M1)) (θ #[ι w1,ι w2]) false).run prog x.w'= .ok (μ aW) x.w':=λx=>by rw[<-ao];exact VH (H.o.retm.more x.h) (w1,w2)
   clear ao
   go_upto_region 4 with fail
   refine Qn w4 8 8 [] ?_
   refine Qq8 ?_
   refine qA ?_;go_wp2;go_ret;exact⟨by rw[N.o];rfl,(M1.o.trans G.o).dr 1⟩
  | false=>
   have N:Hid (s.may (w1,w2)=s.mayOpen (w1,w2)):=κ (by rw[ad.o];rfl);have bd:=β0 aa.o;by_cases e0:w1=0
   ·subst e0;have I:Hid (s.may (0,w2)=decide (0<s.queue.length)):=κ (by rw[N.o];unfold RmS.mayOpen;rw[if_pos rfl]);have be:=β10 H.o.blk;have aM:=κ (Hp H.o)
    go_wp2_with (go_at_call 44;(go_call aM.o as e w5 ⟨rfl,J⟩;have M:=κ J;clear J))
    go_ret;exact⟨qZ (by rw[I.o,Bool.eq_iff_iff]),M1.o.trans (G.o.trans M.o)⟩
   ·by_cases e1:w1=1
    ·subst e1;have I:Hid (s.may (1,w2)=s.ready.isSome):=κ (by rw[N.o];unfold RmS.mayOpen;rw[if_neg η,if_pos rfl]);have af:=κ (Al H.o aN.o);obtain⟨aV,aC⟩:=ν (s.readyO);obtain⟨bk,an⟩:=ν (s.ready.isSome);rw[aC,an] at af;rw[an] at I;clear aC an;obtain⟨bi,bj⟩:=aV;simp only at af
     go_wp2_with (go_at_call 63;(go_call af.o as e w5 ⟨rfl,J⟩;have M:=κ J;clear J))
     go_ret;exact⟨by rw[I.o];rfl,(M1.o.trans (G.o.trans M.o)).al _⟩
    ·have aU:(w1=2∨w1=3∨w1=4)/\(qh s.lanes w2).isSome=true:=by
      rcases aQ.o with e | e | e
      ·injection e with e3 e4
       exact absurd e3 e0
      ·injection e with e3 e4
       exact absurd e3 e1
      ·exact⟨e.1,e.2.2⟩
     obtain⟨aF,aG⟩:=aU;obtain⟨l,am⟩:=Option.isSome_iff_exists.1 aG;obtain⟨p,aB,ay⟩:=H.o.laneAt am;have I:Hid (s.may (w1,w2)=vC l (xB w1)):=κ (by rw[N.o];unfold RmS.mayOpen;simp only[if_neg e0,if_neg e1,am]);have aE:xB w1=1∨xB w1=2∨xB w1=3:=by rcases aF with rfl | rfl | rfl<;>decide
     obtain⟨aX,aD⟩:=ν (xB w1);have ar:=κ (λw'=>Z4 w1 w2 w');have ae:=κ (λw' (m:qa w4 w')=>Iv (ay.on m) (xB w1) aE);rw[aD] at ar ae I;obtain⟨bh,az⟩:=ν (vC l aX);rw[az] at ae I;have aO:=κ aB;have bf:(w1==0)=false:=by simpa using e0
     have bg:(w1==1)=false:=by simpa using e1
     clear aD az aE ay am aG aF e0 e1 aB
     go_upto_region 11 with fail
     have aZ:=λ(x:qt w4)=>β12 (qc x.h H.o.blk)
     have ai:=λ(x:qt w4)=>qc x.h aa.o
     have ab:=λx=>β0 (ai x);have ac:=λx=>β1 (ai x);clear ai
     have bb: ∀x:qt w4,(Instr.lookup 83 (.map (some k.ML)) (ι w2) false).run prog x.w'= .ok (γ p) x.w':=λx=>by
      have:=xq (H.o.lnm.more x.h) w2 false;rw[aO.o] at this;exact this
     refine Qn w4 11 11 [8,9] ?_
     refine Qq8 ?_
     (refine Ql ?_;intro K d)
     go_call ar.o _ as e w5 ⟨rfl,J⟩;have M:Hid (qa w4 w5):=κ ((qa.drewN w4 1).trans J);clear J;refine⟨_,rfl,qk M.o,d _ _ ?_⟩;clear d K
     (refine Ql ?_;intro K d)
     go_call ae.o _ M.o as e w6 ⟨rfl,aK⟩;have aj:Hid (qa w4 w6):=κ (M.o.trans aK);clear aK;refine⟨_,rfl,qk aj.o,d _ _ ?_⟩;clear d K
     iterate 1 (refine qE rfl rfl (qk aj.o) ?_;intro K d;go_big_quiet_op;go_big_quiet_on)
     refine qA ?_;go_wp2;go_ret;exact⟨by rw[I.o];rfl,M1.o.trans (G.o.trans aj.o)⟩
end
end
section
open _root_.Go.Proofs.Tryz
theorem Ev {b:Jb} (d:JOK b) (G:Int):JOK (yD b G).1:=by
 unfold yD;cases hb:b.holds with
 | nil=>exact d
 | cons h T=>
  simp only;split
  ·exact VL d hb
  ·exact d
theorem Ew {b:Jb} {d:Int} (h:xa b d=true): ∃x∈b.holds,(yD b d).2.2.1=x.2.2:=by
 unfold yD;cases hb:b.holds with
 | nil=>unfold xa at h;rw[hb] at h;cases h
 | cons x L=>
  simp only[h,if_true];exact⟨x,List.mem_cons_self,rfl⟩
theorem Fh (s:RmS) (o:Og) (i:Nat) {a:AcS} (h:s.pks.getD i ac0=a):s.item o (i:Int)=⟨i,o.2,zJ a.pk.pl,a.pk⟩:=by
 unfold RmS.item;rw[Int.toNat_natCast,h]
theorem GZ (d:ItS) {s:RmS} (h: ∀y i,qh s.book (y,i)=some 0->(qh s.lanes y).isSome=true) (x:Int): ∀y i,qh (s.put1 d x).book (y,i)=some 0->(qh (s.put1 d x).lanes y).isSome=true:=by
 intro y i;unfold RmS.put1;split
 ·cases hl:qh s.lanes x with
  | none=>exact h y i
  | some l=>
   have G:(qh s.lanes y).isSome=true->(qh (qx s.lanes x (xp l d).1) y).isSome=true:=λe=>by
    rw[qF];split
    ·rfl
    ·exact e
   simp only;split
   ·intro e;refine G (h y i ?_);simp only at e;rw[ye _ _ _ _ ζ] at e;split at e
    ·cases e
    ·exact e
   ·exact λe=>G (h y i e)
 ·exact h y i
theorem ZD (d:ItS): ∀(L:List Int) {s:RmS},(∀y i,qh s.book (y,i)=some 0->(qh s.lanes y).isSome=true)-> ∀y i,qh (L.foldl (RmS.put1 d) s).book (y,i)=some 0->(qh (L.foldl (RmS.put1 d) s).lanes y).isSome=true
 | [],_,h=>h
 | x::L,_,h=>ZD d L (GZ d h x)
section
variable {T:Nat->Tg} {w0 w w':World} {k:RmK} {vp vr:Value} {s:RmS} {F:List Nat}
theorem Lg (dD:qI w0 w k s F) (bv:Ia s) (w1 w2:Int) (acc:Bool):
  Calls prog 86 #[γ k.R,θ #[ι w1,ι w2],acc] w λe w'=>e= .returned (.tuple #[])/\qI w0 w' k s.order F/\qw F w w':=by
 obtain⟨T,vp,dK,h⟩:=dD;obtain⟨W1,aG⟩:=ν (w.alloc (.cells #[ι w1,ι w2] 36));have bQ:Hid (qa w W1):=κ (by rw[<-aG];exact qa.alloc _ _);have aD:=κ (h.on bQ.o);have bS:=κ (h.at.stay bQ.o);have aM:=κ bv;have aS:=κ (Al aD.o bv.clock);clear h bv;obtain⟨cx,bb⟩:=ν (s.ready);have aQ:=κ bb;have e0:s.readyO=cx.getD (0,0):=by unfold RmS.readyO;rw[bb]
 rw[bb,e0] at aS;clear bb e0;cases cx with
 | none=>
  have bj:Hid (s.order=s):=κ (by unfold RmS.order;rw[aQ.o])
  go_enter func86,ntmps86
  go_upto_region 1 with fail
  (try rw[aG])
  clear aG
  go_wp2_with (go_at_call 63;(go_call aS.o as e G ⟨rfl,aK⟩;have aE:=κ aK;clear aK))
  (refine bodyPost_ret (v:= .tuple #[]) ?re2 rfl ?_;(case re2=>simp[results,results86,go_sem]))
  exact⟨rfl,by rw[bj.o];exact(aD.o.on (aE.o.al _)).at,bS.o.trans (aD.o.at.stay (aE.o.al _))⟩
 | some o=>
  obtain⟨an,o2⟩:=o;simp only[Option.getD_some,Option.isSome_some] at aS;have bZ:=List.mem_of_find?_eq_some aQ.o;have ba:s.readyAt (an,o2)=true:=List.find?_some aQ.o;obtain⟨t,av⟩:=yB bZ;have ce:xa t.buf s.clock=true:=by
   unfold RmS.readyAt at ba;rw[av] at ba;exact ba
  have aT:=κ av;have cU:=κ ce;clear bZ ba av ce;have bj:Hid (s.order=s.orderAt (an,o2) t):=κ (by unfold RmS.order;rw[aQ.o];simp only[aT.o])
  go_enter func86,ntmps86
  go_upto_region 1 with fail
  (try rw[aG])
  clear aG
  go_upto_region 3 with (go_at_call 63;(go_call aS.o as e G ⟨rfl,aK⟩;have aE:=κ aK;clear aK))
  obtain⟨U,aW⟩:=ν (G.alloc (.cells #[ι an,ι o2] 50));have bR:Hid (qa W1 U):=κ (by rw[<-aW];exact aE.o.al _);have bf:Hid (U.heap[G.heap.size]? =some (.cells #[ι an,ι o2] 50 (0,0))):=κ (by rw[<-aW];exact qj _ _);have cg:W1.heap.size<=G.heap.size:=aE.o.size;have ak:RmX T w0 U k vp dK s ([G.heap.size]++F):=aD.o.adds bR.o (λb ab=>by simp at ab;subst ab;exact⟨cg,qn bf.o⟩)
  (try rw[aW])
  clear aW;have aU:=κ ak;obtain⟨bD,aa,vb,cc,aq⟩:=ak.strAt aT.o;have bO:=κ cc;have ar:=κ aq;have cq:k.R≠aa:=λe=>by have:=aq.nb;rw[<-e,(ak.all .room).1] at this;cases this
  have cr: ¬vb.ownBlock=some k.R:=λe=>by have:=(aq.nv _ e).1;rw[(ak.all .room).1] at this;cases this
  have cp: ¬(k.R=aa∨vb.ownBlock=some k.R):=λe=>e.elim cq cr
  have ck:k.MS≠aa:=λe=>by have:=aq.nb;rw[<-e,(ak.all .sts).1] at this;cases this
  have cl: ¬vb.ownBlock=some k.MS:=λe=>by have:=(aq.nv _ e).1;rw[(ak.all .sts).1] at this;cases this
  have cj: ¬(k.MS=aa∨vb.ownBlock=some k.MS):=λe=>e.elim ck cl
  have cn:G.heap.size≠aa:=λe=>by have:=aq.nb;rw[<-e,(ak.law G.heap.size η).1] at this;cases this
  have co: ¬vb.ownBlock=some G.heap.size:=λe=>by have:=(aq.nv _ e).1;rw[(ak.law G.heap.size η).1] at this;cases this
  have cm: ¬(G.heap.size=aa∨vb.ownBlock=some G.heap.size):=λe=>e.elim cn co
  have ct: ¬(bD=aa∨vb.ownBlock=some bD):=λe=>e.elim (λe=>ar.o.ne e) (λe=>(ar.o.nv _ e).2 rfl)
  have bo:=λ(x:qz (λb=>b=aa∨vb.ownBlock=some b) U)=>x.h.blk aU.o.blk cp
  have cH:=λx=>β13 (bo x);have cI:=λx=>β9 (bo x);clear bo
  have bp:=λ(x:qz (λb=>b=aa∨vb.ownBlock=some b) U)=>x.h.blk bf.o cm
  have cK:=λx=>β0 (bp x);have cL:=λx=>β1 (bp x);clear bp
  have cJ:=λ(x:qz (λb=>b=aa∨vb.ownBlock=some b) U)=>β0 (x.h.blk ar.o.blk ct)
  have bg: ∀x:qz (λb=>b=aa∨vb.ownBlock=some b) U,(Instr.lookup 84 (.map (some k.MS)) (θ #[ι an,ι o2]) false).run prog x.w'= .ok (γ bD) x.w':=λx=>by
   have:=ya (aU.o.stm.away x.h cj) (an,o2) false;rw[bO.o] at this;exact this
  clear ak cc aq cg cq cr ck cl cn co;refine QN (λb=>b=aa∨vb.ownBlock=some b) U 21 21 [13] ?_
  refine NE ?_
  (refine Ql ?_;intro K d)
  obtain⟨id,aY⟩:=ν ((yD t.buf s.clock).2.2.1);have cO:=κ aY
  have bM:Hid (0<=id/\id<(s.pks.length:Int)):=κ (by
   obtain⟨x,dI,e⟩:=Ew cU.o;rw[<-aY,e]
   exact aM.o.ids _ _ aT.o x dI)
  obtain⟨H,dE⟩:=Int.eq_ofNat_of_zero_le bM.o.1;subst dE;have dF:H<s.pks.length:=by have:=bM.o.2;omega
  have aP:=κ (FJ t.buf ar.o.ok aa vb s.clock aM.o.clock _ (ar.o.buf.on (qa.drewN U 1)));rw[aY] at aP;clear aY
  (with_reducible refine aP.o.mono ?_)
  rintro e w5 ⟨rfl,v5,st⟩;have bH:Hid (qg (λb=>b=aa∨vb.ownBlock=some b) U w5):=κ (((qg.refl _ U).drewN 1).trans st.away);have az:=κ ((aU.o.on (qa.drewN U 1)).strBuf aT.o bO.o (ar.o.on (qa.drewN U 1)) st (Ev ar.o.ok s.clock));have bq:=κ ((aU.o.at.stay (qa.drewN U 1)).trans az.o.2);clear st;refine⟨_,rfl,qi bH.o,d _ _ ?_⟩;clear d K
  iterate 7 (refine qE rfl rfl (qi bH.o) ?_;intro K d;go_big_quiet_op;go_big_quiet_on)
  refine qA ?_;clear cH cI cK cL cJ bg cp cj cm ct;obtain⟨ac,bc⟩: ∃ac:RmS,{s with strs:=qx s.strs (an,o2) {t with buf:=(yD t.buf s.clock).1}}=ac:=⟨_,rfl⟩;have bP:=κ bc;rw[bc] at az;have aN:Hid (ac.pks=s.pks):=κ (by rw[<-bc]);have bu:H<ac.pks.length:=by rw[aN.o];exact dF
  obtain⟨dL,dS,dU,bF⟩:=az.o.1;obtain⟨g,cap,os,M,N,J,ke,I,rfl,dR,dO,bW,cf⟩:=bF.pkRow bu;have dz:=κ bF;have aR:=κ cf;have bL:=κ bW;have dQ:(ac.pks.length:Int)=s.pks.length:=by rw[aN.o]
  clear bc bF cf bW;obtain⟨a,aH⟩:=ν (ac.pks[H]);have bK:=κ aH;simp only[aH] at aR bL;clear aH;have dB:=β14 dz.o.blk
  have cT:Hid (w5.rangeAt g (H* 13+3) (Γh a.pk os J M ke N I)):=κ (λj v dH=>by
   rw[Nat.add_assoc]
   exact bL.o (3+j) v (by rw[Nat.add_comm];exact dH))
  go_upto_region 5 with (refine wpList_load_mid rfl 55 (.tmp 48) rfl g (H* 13+3) rfl (Γh a.pk os J M ke N I) _ cT.o underlying55 rfl ξ ?_)
  obtain⟨W6,aX⟩:=ν (w5.alloc (.cells (Γh a.pk os J M ke N I) 55));have aj:Hid (qa w5 W6):=κ (by rw[<-aX];exact qa.alloc _ _);have cC:Hid (W6.heap[w5.heap.size]? =some (.cells (Γh a.pk os J M ke N I) 55 (0,0))):=κ (by rw[<-aX];exact qj _ _);have cF:=κ (bq.o.blk η bf.o)
  (try rw[aX])
  clear aX dB;have dw:=κ aR.o.pk;have aO:=κ (aM.o.pkok a (by rw[<-bK.o];rw[<-aN.o];exact List.getElem_mem bu));obtain⟨ae,bw⟩:=ν (zJ a.pk.pl);have bi:=κ (λw' (m:qa w5 w')=>Jg _ a.pk.pl w' (dw.o.l.keep m) aO.o.1.pl aO.o.2.l);rw[bw] at bi;have cP:=κ bw;clear bw;obtain⟨O,bY⟩: ∃O:ItS,(⟨H,o2,ae,a.pk⟩:ItS)=O:=⟨_,rfl⟩;have aL:=κ bY;clear bY
  have cN:Hid (s.orderAt (an,o2) t=subIds.foldl (RmS.put1 O) ac):=κ (by
   have aH:s.pks.getD H ac0=a:=by
    rw[<-aN.o,List.getD_eq_getElem?_getD,List.getElem?_eq_getElem bu];exact bK.o
   unfold RmS.orderAt
   rw[cO.o,bP.o,Fh s (an,o2) H aH,<-aL.o,<-cP.o])
  have cS:Hid (∀y i,qh ac.book (y,i)=some 0->(qh ac.lanes y).isSome=true):=κ (by rw[<-bP.o];exact aM.o.owes);have dy:Hid (qw F w U):=κ (bS.o.trans (aD.o.at.stay bR.o));have dj:=λ(x:qt W6)=>β1 (qc (aj.o.trans x.h) cF.o)
  have ag:=λ(x:qt W6)=>qc x.h cC.o
  have dk:=λx=>β0 (ag x);have dl:=λx=>β1 (ag x);have dm:=λx=>β2 (ag x);have dn:=λx=>β3 (ag x);have dp:=λx=>β4 (ag x);have dq:=λx=>β5 (ag x);have ds:=λx=>β6 (ag x);have dt:=λx=>β7 (ag x);have du:=λx=>β8 (ag x);have dv:=λx=>β9 (ag x);clear ag
  go_cut [12] from 50 to 90 (λv bE=> ∃A:Nat,v= γ A/\RmP (acC a (δ os a.pk.ss.length J) (δ M a.pk.ex.length ke) (δ N a.pk.pl.length I)) a w0 bE k ac ([A]++([G.heap.size]++F))/\qw ([G.heap.size]++F) U bE/\bE.heap[A]? =some (.cells #[ι H,ι o2,ae,a.pk.mr,υ a.pk.ty,φ a.pk.sq,ω a.pk.st,ω a.pk.sc,δ os a.pk.ss.length J,a.pk.has,φ a.pk.pr,δ M a.pk.ex.length ke,δ N a.pk.pl.length I] 218 (0,0)))
  case first=>
   refine zB W6 9 (.op 0 false (.op 1 false (.op 2 false (.op 3 false (.op 4 false (.op 6 false (.br [5,8] λk=>if k=5 then .op 7 false (.op 8 true (.op 9 true (.done))) else .op 5 true (.op 7 false (.op 9 true (.done)))))))))) ξ ξ ?_
   repeat (first | (refine jg rfl rfl (qk ρ) ?_) | (refine qH rfl rfl (qk ρ) ?_;intro K d;go_big_quiet_op;go_big_quiet_on))
   refine wP ζ ?_ ?_
   ·(refine qO rfl rfl ?_;intro K d;unfold jn;go_simp)
    refine(bi.o _ (aj.o.trans (qa.drewN W6 1))).mono ?_;rintro e w8 ⟨rfl,ci⟩;have ah:Hid (qa W6 w8):=κ ((qa.drewN W6 1).trans ci);clear ci;refine⟨_,rfl,qk ah.o,d _ _ ?_⟩;clear d K
    repeat (first | (refine jg rfl rfl (qk ah.o) ?_) | (refine qH rfl rfl (qk ah.o) ?_;intro K d;go_big_quiet_op;go_big_quiet_on))
    (refine qO rfl rfl ?_;intro K d;unfold jn;go_simp)
    refine⟨qk (ah.o.al _),d _ _ ?_⟩;clear d K;obtain⟨w9,be⟩:=ν (w8.alloc (.cells Γa 218));obtain⟨A,am⟩:=ν (w8.heap.size);have ay:Hid (w9.heap[A]? =some (.cells Γa 218 (0,0))):=κ (by rw[<-be,<-am];exact qj w8 _);have ap:Hid (qa W6 w9):=κ (by rw[<-be];exact ah.o.al _);have ax:Hid (W6.heap.size<=A):=κ (by rw[<-am];exact ah.o.size)
    (try rw[be])
    (try rw[am])
    clear be am
    repeat (first | (refine jg rfl rfl (qk ap.o) ?_) | (refine qH rfl rfl (qk ap.o) ?_;intro K d;go_big_quiet_op;go_big_quiet_on))
    refine qO rfl rfl ?_;intro K d;have ad:=κ (ap.o.row ax.o #[ι H,ι o2,ae,a.pk.mr,υ a.pk.ty,φ a.pk.sq,ω a.pk.st,ω a.pk.sc,δ os a.pk.ss.length J,a.pk.has,φ a.pk.pr,δ M a.pk.ex.length ke,δ N a.pk.pl.length I]);have ai:=κ (jM ay.o #[ι H,ι o2,ae,a.pk.mr,υ a.pk.ty,φ a.pk.sq,ω a.pk.st,ω a.pk.sc,δ os a.pk.ss.length J,a.pk.has,φ a.pk.pr,δ M a.pk.ex.length ke,δ N a.pk.pl.length I]);refine xw 218 (.tmp 12) (.tmp 57) rfl A 218 _ #[ι H,ι o2,ae,a.pk.mr,υ a.pk.ty,φ a.pk.sq,ω a.pk.st,ω a.pk.sc,δ os a.pk.ss.length J,a.pk.has,φ a.pk.pr,δ M a.pk.ex.length ke,δ N a.pk.pl.length I] ay.o rfl rfl ξ rfl (by simp[Value.oneCell']) ?_;refine⟨qk ad.o,d _ _ ?_⟩;clear d K
    repeat (first | (refine jg rfl rfl (qk ad.o) ?_) | (refine qH rfl rfl (qk ad.o) ?_;intro K d;go_big_quiet_op;go_big_quiet_on))
    refine zg ?_;obtain⟨bs,au⟩:=ν (w9.setRow A #[ι H,ι o2,ae,a.pk.mr,υ a.pk.ty,φ a.pk.sq,ω a.pk.st,ω a.pk.sc,δ os a.pk.ss.length J,a.pk.has,φ a.pk.pr,δ M a.pk.ex.length ke,δ N a.pk.pl.length I]);rw[au] at ad ai
    (try rw[au])
    clear au;have aB:Hid (RmP (acC a (δ os a.pk.ss.length J) (δ M a.pk.ex.length ke) (δ N a.pk.pl.length I)) a w0 bs k ac ([A]++([G.heap.size]++F))):=κ (aR.o.adds (aj.o.trans ad.o) (λb ab=>by simp at ab;subst ab;exact⟨Nat.le_trans aj.o.size ax.o,qn ai.o⟩));have aF:=κ (bq.o.trans (az.o.1.stay (aj.o.trans ad.o)));go_wp2;go_meet;exact⟨_,rfl,aB.o,aF.o,ai.o⟩
   ·(refine qO rfl rfl ?_;intro K d;unfold jn;go_simp)
    refine⟨qk ((qa.drewN W6 1).al _),d _ _ ?_⟩;clear d K;obtain⟨w8,bd⟩:=ν ((W6.drewN 1).alloc (.cells Γa 218));obtain⟨A,am⟩:=ν (W6.heap.size);have cD:Hid (w8.heap[A]? =some (.cells Γa 218 (0,0))):=κ (by rw[<-bd,<-am];exact qj (W6.drewN 1) _);have ah:Hid (qa W6 w8):=κ (by rw[<-bd];exact(qa.drewN W6 1).al _);have ax:Hid (W6.heap.size<=A):=κ (by rw[<-am];exact(qa.drewN W6 1).size)
    (try rw[bd])
    (try rw[am])
    clear bd am
    repeat (first | (refine jg rfl rfl (qk ah.o) ?_) | (refine qH rfl rfl (qk ah.o) ?_;intro K d;go_big_quiet_op;go_big_quiet_on))
    (refine qO rfl rfl ?_;intro K d;unfold jn;go_simp)
    refine(bi.o _ (aj.o.trans ah.o)).mono ?_;rintro e w9 ⟨rfl,bC⟩;have ap:=κ (ah.o.trans bC);have ay:=κ (qc bC cD.o);clear bC;refine⟨_,rfl,qk ap.o,d _ _ ?_⟩;clear d K
    repeat (first | (refine jg rfl rfl (qk ap.o) ?_) | (refine qH rfl rfl (qk ap.o) ?_;intro K d;go_big_quiet_op;go_big_quiet_on))
    refine qO rfl rfl ?_;intro K d;have ad:=κ (ap.o.row ax.o #[ι H,ι o2,ae,a.pk.mr,υ a.pk.ty,φ a.pk.sq,ω a.pk.st,ω a.pk.sc,δ os a.pk.ss.length J,a.pk.has,φ a.pk.pr,δ M a.pk.ex.length ke,δ N a.pk.pl.length I]);have ai:=κ (jM ay.o #[ι H,ι o2,ae,a.pk.mr,υ a.pk.ty,φ a.pk.sq,ω a.pk.st,ω a.pk.sc,δ os a.pk.ss.length J,a.pk.has,φ a.pk.pr,δ M a.pk.ex.length ke,δ N a.pk.pl.length I]);refine xw 218 (.tmp 12) (.tmp 57) rfl A 218 _ #[ι H,ι o2,ae,a.pk.mr,υ a.pk.ty,φ a.pk.sq,ω a.pk.st,ω a.pk.sc,δ os a.pk.ss.length J,a.pk.has,φ a.pk.pr,δ M a.pk.ex.length ke,δ N a.pk.pl.length I] ay.o rfl rfl ξ rfl (by simp[Value.oneCell']) ?_;refine⟨qk ad.o,d _ _ ?_⟩;clear d K
    repeat (first | (refine jg rfl rfl (qk ad.o) ?_) | (refine qH rfl rfl (qk ad.o) ?_;intro K d;go_big_quiet_op;go_big_quiet_on))
    refine zg ?_;obtain⟨bs,au⟩:=ν (w9.setRow A #[ι H,ι o2,ae,a.pk.mr,υ a.pk.ty,φ a.pk.sq,ω a.pk.st,ω a.pk.sc,δ os a.pk.ss.length J,a.pk.has,φ a.pk.pr,δ M a.pk.ex.length ke,δ N a.pk.pl.length I]);rw[au] at ad ai
    (try rw[au])
    clear au;have aB:Hid (RmP (acC a (δ os a.pk.ss.length J) (δ M a.pk.ex.length ke) (δ N a.pk.pl.length I)) a w0 bs k ac ([A]++([G.heap.size]++F))):=κ (aR.o.adds (aj.o.trans ad.o) (λb ab=>by simp at ab;subst ab;exact⟨Nat.le_trans aj.o.size ax.o,qn ai.o⟩));have aF:=κ (bq.o.trans (az.o.1.stay (aj.o.trans ad.o)));go_wp2;go_meet;exact⟨_,rfl,aB.o,aF.o,ai.o⟩
  case rest=>
  obtain⟨A,rfl,ca,cy,bV⟩:=hcut;have aB:=κ ca;have aF:=κ cy;have ai:=κ bV;clear dj dk dl dm dn dp dq ds dt du dv ca cy bV;go_wp2
  go_loopw [58] (λbB wr=> ∃j:Nat,j<=6/\bB= ι j/\RmP (acC a (δ os a.pk.ss.length J) (δ M a.pk.ex.length ke) (δ N a.pk.pl.length I)) a w0 wr k ((subIds.take j).foldl (RmS.put1 O) ac) ([A]++([G.heap.size]++F))/\qw ([A]++([G.heap.size]++F)) wc wr) (λbB _=>6-(intOf bB).toNat)
  case atStart=>exact⟨0,τ,rfl,aB.o,qw.refl _ _⟩
  case round=>
   obtain⟨j,dP,rfl,cd,av⟩:=hrel;have aC:=κ cd;have bn:=κ av;have cE:=κ (av.blk η ai.o);clear av;by_cases hlt:j<6
   ·have dG:(j:Int)<6:=by omega
    have bm:=κ (QW hlt);have cR:=κ (ZD O (subIds.take j) cS.o);generalize ch:(subIds.take j).foldl (RmS.put1 O) ac=sj at *;have bl:=κ ch;clear ch;obtain⟨dM,dT,dV,aw,_⟩:=cd;have dA:=β0 aw.blk;have bk:=κ (Hs aw.bok (j:Int) (H:Int));obtain⟨dJ,aI⟩:=ν (decide (qh sj.book ((j:Int),(H:Int))=some 0));rw[aI] at bk;cases dJ with
    | false=>
     have aA:Hid (sj.put1 O (j:Int)=sj):=κ (by unfold RmS.put1;rw[<-aL.o];exact if_neg (of_decide_eq_false aI));clear aI aw
     go_wp2_with (go_at_call 140;(go_call bk.o as e af ⟨rfl,aJ⟩;have ao:=κ aJ;clear aJ))
     go_roundw
     case rel=>exact⟨j+1,τ,by go_num,by rw[bm.o,List.foldl_append,bl.o];show RmP _ a w0 _ k (sj.put1 O (j:Int)) _;rw[aA.o];exact aC.o.on ao.o,bn.o.trans (aC.o.at.stay ao.o)⟩
     case measure=>simp[intOf];omega
    | true=>
     have bA:qh sj.book ((j:Int),(H:Int))=some 0:=of_decide_eq_true aI;obtain⟨l,aZ⟩:=Option.isSome_iff_exists.1 (cR.o (j:Int) (H:Int) bA);obtain⟨pl,cb,_⟩:=aw.laneAt aZ;have aA:Hid (sj.put1 O (j:Int)=if (xp l O).2.2.1 then {sj with lanes:=qx sj.lanes (j:Int) (xp l O).1,book:=jp sj.book (j:Int) (xp l O).2.1 6} else {sj with lanes:=qx sj.lanes (j:Int) (xp l O).1}):=κ (by unfold RmS.put1;rw[if_pos (by rw[<-aL.o];exact bA),aZ]);have cQ:=κ aZ;have bN:=κ cb;have aV:=κ aw;clear aI aw bA aZ cb
     go_upto_region 10 with (go_at_call 140;(go_call bk.o as e af ⟨rfl,aJ⟩;have ao:=κ aJ;clear aJ))
     have dN:A≠k.R:=λe=>by have:=(aV.o.law A η).1;rw[e,(aV.o.all .room).1] at this;cases this
     have cG:=λ(x:qz (λb=>b≠k.R/\b≠k.ML/\b∉[A]++([G.heap.size]++F)) af)=>β12 (x.h.blk (qc ao.o aV.o.blk) (λc=>c.1 rfl))
     have bg: ∀x:qz (λb=>b≠k.R/\b≠k.ML/\b∉[A]++([G.heap.size]++F)) af,(Instr.lookup 83 (.map (some k.ML)) (ι (j:Int)) false).run prog x.w'= .ok (γ pl) x.w':=λx=>by
      have:=xq ((aV.o.lnm.more ao.o).away x.h (λc=>c.2.1 rfl)) (j:Int) false;rw[bN.o] at this;exact this
     have bI: ∀x:qz (λb=>b≠k.R/\b≠k.ML/\b∉[A]++([G.heap.size]++F)) af,x.w'.heap[A]? =some (.cells #[ι H,ι o2,ae,a.pk.mr,υ a.pk.ty,φ a.pk.sq,ω a.pk.st,ω a.pk.sc,δ os a.pk.ss.length J,a.pk.has,φ a.pk.pr,δ M a.pk.ex.length ke,δ N a.pk.pl.length I] 218 (0,0)):=λx=>x.h.blk (qc ao.o cE.o) (λc=>c.2.2 η)
     have Y:=λ(x:qz (λb=>b≠k.R/\b≠k.ML/\b∉[A]++([G.heap.size]++F)) af)=>bI x
     have cW:=λx=>β0 (Y x);have cX:=λx=>β1 (Y x);have db:=λx=>β2 (Y x);have dc:=λx=>β3 (Y x);have dd:=λx=>β4 (Y x);have de:=λx=>β5 (Y x);have df:=λx=>β6 (Y x);have dg:=λx=>β7 (Y x);have dh:=λx=>β8 (Y x);have di:=λx=>β9 (Y x);have cY:=λx=>β10 (Y x);have cZ:=λx=>β11 (Y x);have da:=λx=>β12 (Y x);clear Y
     refine QN (λb=>b≠k.R/\b≠k.ML/\b∉[A]++([G.heap.size]++F)) af 15 15 [7] ?_
     refine Qs7 ?_
     (refine Ql ?_;intro K d)
     obtain⟨l',bx⟩: ∃l',(xp l O).1=l':=⟨_,rfl⟩;obtain⟨cu,bz⟩:=ν ((xp l O).2.1);obtain⟨dr,bt⟩:=ν ((xp l O).2.2.1);obtain⟨dC,bX⟩:=ν ((xp l O).2.2.2)
     have aP:Hid (Calls prog 141 #[γ pl,θ #[ι H,ι o2,ae,a.pk.mr,υ a.pk.ty,φ a.pk.sq,ω a.pk.st,ω a.pk.sc,δ os a.pk.ss.length J,a.pk.has,φ a.pk.pr,δ M a.pk.ex.length ke,δ N a.pk.pl.length I]] (af.drewN 1) λe w'=>e= .returned (.tuple #[ι cu,dr,ι dC])/\
       RmP (acC a (δ os a.pk.ss.length J) (δ M a.pk.ex.length ke) (δ N a.pk.pl.length I)) a w0 w' k {sj with lanes:=qx sj.lanes (j:Int) l'} ([A]++([G.heap.size]++F))/\qw ([A]++([G.heap.size]++F)) (af.drewN 1) w'/\qg (λb=>b≠k.R/\b≠k.ML/\b∉[A]++([G.heap.size]++F)) (af.drewN 1) w'):=κ (by
      rw[<-bx,<-bz,<-bt,<-bX,<-aL.o];have h:=(aC.o.on ao.o).on (qa.drewN af 1)
      exact Mz h ⟨H,o2,ae,a.pk⟩ os M N J ke I h.pk aO.o.1 aO.o.2 cQ.o bN.o)
     rw[bx,bz,bt] at aA;clear bx bz bt bX
     (with_reducible refine aP.o.mono ?_)
     rintro e cB ⟨rfl,cv,cz,bU⟩;have bh:=κ cv;have bT:Hid (qw ([A]++([G.heap.size]++F)) wc cB):=κ (bn.o.trans ((aC.o.at.stay (ao.o.dr 1)).trans cz));have bG:Hid (qg (λb=>b≠k.R/\b≠k.ML/\b∉[A]++([G.heap.size]++F)) af cB):=κ (((qg.refl _ af).drewN 1).trans bU);clear cv cz bU;refine⟨_,rfl,qi bG.o,d _ _ ?_⟩;clear d K
     iterate 7 (refine qE rfl rfl (qi bG.o) ?_;intro K d;go_big_quiet_op;go_big_quiet_on)
     refine qA ?_;clear cG bg bI cW cX db dc dd de df dg dh di cY cZ da;cases dr with
     | false=>
      go_wp2;go_roundw
      case rel=>exact⟨j+1,τ,by go_num,by rw[bm.o,List.foldl_append,bl.o];show RmP _ a w0 _ k (sj.put1 O (j:Int)) _;rw[aA.o];exact bh.o,bT.o⟩
      case measure=>simp[intOf];omega
     | true=>
      obtain⟨_,_,bJ⟩:=bh.o.at.blk;have dA:=β0 bJ;clear bJ;have cV:=κ (CD bh.o (j:Int) cu 6)
      go_wp2_with (go_at_call 128;(go_call cV.o as e dW ⟨rfl,cw,cA⟩;have cM:=κ cw;have dx:=κ cA;clear cw cA))
      go_roundw
      case rel=>exact⟨j+1,τ,by go_num,by rw[bm.o,List.foldl_append,bl.o];show RmP _ a w0 _ k (sj.put1 O (j:Int)) _;rw[aA.o];exact cM.o,bT.o.trans dx.o⟩
      case measure=>simp[intOf];omega
   ·obtain rfl:j=6:=by omega
    have dG: ¬((6:Nat):Int)<6:=by omega
    go_wp2
    (refine bodyPost_end (v:= .tuple #[]) ?re1 rfl ?_;(case re1=>simp[results,results86,go_sem]))
    exact⟨rfl,by rw[bj.o,cN.o];have h:=aC.o.at;exact h.sub (λb ab=>by simp[ab]),dy.o.trans ((aF.o.sub (λb ab=>by simp[ab])).trans (bn.o.sub (λb ab=>by simp[ab])))⟩
end
end
section
open _root_.Go.Proofs.Tryz
theorem qV.rd {n:Nat} {s:RmS} (h:qV n s) (M:n<=1000):Ia s:=by
 have Y:=h.num.malf;have aa:=h.num.told;have ab:=h.num.strange;have ac:=h.num.acc;have ad:=h.num.pks;have ae:=h.num.clock;refine⟨h.subs M,λx U a b m J=>by rw[h.tb.str _ _ J];exact h.tb.pub x U a b,τ,τ,τ,τ,τ,⟨τ,τ⟩,λo t H=>⟨λd=> ?_,λsq N=> ?_⟩,h.tb.org,λb G=>⟨(h.num.queue b G).1,by have:=(h.num.queue b G).2;omega⟩,λo t H x O=>h.ow.few o t H _ (List.mem_map.2 ⟨x,O,rfl⟩),λa d=>⟨(h.num.pkok a d).1,(h.num.pkok a d).2.1⟩,λx id G=> ?_⟩
 ·have:=h.num.great o t H d;exact⟨τ,τ⟩
 ·have:=WS (n:=n) N (h.num.great o t H);exact⟨τ,τ⟩
 ·obtain⟨l,I,_⟩:=h.ow.src x id G;rw[I];rfl
section
variable {T:Nat->Tg} {w0 w w':World} {k:RmK} {vp vr:Value} {s:RmS} {F:List Nat}
theorem Hq {n:Nat} (aF:qI w0 w k s F) (ar:qV n s) (au:n<=1000) (w1 w2:Int) (acc:Bool):
  Calls prog 30 #[γ k.R,θ #[ι w1,ι w2],acc] w λe w'=>e= .returned (μ (s.pick (w1,w2) acc).2)/\qI w0 w' k (s.pick (w1,w2) acc).1 F/\qw F w w':=by
 obtain⟨T,vp,aK,h⟩:=aF;obtain⟨W1,J⟩:=ν (w.alloc (.cells #[ι w1,ι w2] 36));have ay:Hid (qa w W1):=κ (by rw[<-J];exact qa.alloc _ _);have al:Hid (W1.heap[w.heap.size]? =some (.cells #[ι w1,ι w2] 36 (0,0))):=κ (by rw[<-J];exact qj w _);have I:=κ (h.on ay.o);have ae:=κ (h.at.stay ay.o);have ao:=κ ar;have ap:=κ (ar.rd au);obtain⟨c,aq⟩:=ν (s.may (w1,w2));obtain⟨az,aA⟩:=ν (s.closed);have ac:=κ (LI I.o ap.o.clock w1 w2);rw[aq] at ac;have am:=κ aq;have ab:=κ aA;have ag:=β0 al.o;have ah:=β1 al.o;have aw:=κ au;clear h aq aA ar au;cases c with
 | false=>
  have an:Hid (s.pick (w1,w2) acc=(s,false)):=κ (by unfold RmS.pick;rw[if_neg (by rw[am.o];decide)]);rw[an.o]
  go_enter func30,ntmps30
  go_upto_region 1 with fail
  (try rw[J])
  clear J
  go_wp2_with (go_at_call 17;(go_call ac.o as e ai ⟨rfl,d⟩;have G:=κ d;clear d))
  go_ret;exact⟨rfl,(I.o.on G.o).at,ae.o.trans (I.o.at.stay G.o)⟩
 | true=>
  have an:Hid (s.pick (w1,w2) acc=(s.stepW (w1,w2) acc,true)):=κ (by unfold RmS.pick;rw[if_pos am.o]);rw[an.o]
  have ax:Hid ((w1,w2)∈s.workers/\(if s.closed then !((qh s.ret (w1,w2)).getD false) else s.mayOpen (w1,w2))=true):=κ (by
   have h:=am.o;unfold RmS.may at h;rw[Bool.and_eq_true] at h
   exact⟨of_decide_eq_true h.1,h.2⟩)
  have aI:(w1=0∨w1=1∨w1=2∨w1=3∨w1=4)/\(2<=w1->(qh s.lanes w2).isSome=true):=by
   rcases mem_workers.1 ax.o.1 with e | e | e
   ·injection e with e3 e4
    exact⟨Or.inl e3,λh=>by omega⟩
   ·injection e with e3 e4
    exact⟨Or.inr (Or.inl e3),λh=>by omega⟩
   ·exact⟨Or.inr (Or.inr e.1),λ_=>e.2.2⟩
  obtain⟨aB,aC⟩:=aI;have aj:=κ aC;clear aC;have ad: ∀w',qa W1 w'->w'.cell? ⟨k.R,7,none⟩=some (μ az):=λw' m=>by rw[<-ab.o];exact qb (qc m I.o.blk) 7 rfl
  have af:=κ ad;have M:=κ (λw' (m:qa W1 w')=>qc m al.o);clear ad;cases az with
  | true=>
   have O:Hid (s.stepW (w1,w2) acc=s.endW (w1,w2)):=κ (by unfold RmS.stepW;rw[if_pos ab.o]);have aH:=ao.o.num.lost;have av:=aw.o;have aD:=κ (λw' (m:qa W1 w')=>ME (I.o.at.on m) w1 w2 acc τ aj.o τ);clear aH av aB
   go_enter func30,ntmps30
   go_upto_region 1 with fail
   (try rw[J])
   clear J
   go_wp2_with (first | (go_at_call 17;(go_call ac.o as e ai ⟨rfl,d⟩;have G:=κ d;have ad:=af.o _ d;have ag:=β0 (M.o _ d);have ah:=β1 (M.o _ d);clear d)) | (go_at_call 84;(go_call aD.o _ G.o as e w4 ⟨rfl,H,t4⟩;have N:=κ H;have U:=κ t4;clear H t4)))
   go_ret;exact⟨rfl,by rw[O.o];exact N.o,ae.o.trans ((I.o.at.stay G.o).trans U.o)⟩
  | false=>
   have aE:Hid (s.mayOpen (w1,w2)=true):=κ (by
    have:=ax.o.2;rw[ab.o] at this
    exact this)
   rcases aB with rfl | rfl | rfl | rfl | rfl
   ·have O:Hid (s.stepW (0,w2) acc=s.read):=κ (by unfold RmS.stepW;rw[if_neg (by rw[ab.o];decide),if_pos rfl]);obtain⟨b,q,ak⟩: ∃b q,s.queue=b::q:=by
     have h:=aE.o;unfold RmS.mayOpen at h;rw[if_pos rfl] at h;have h:=of_decide_eq_true h;cases ak:s.queue with
     | nil=>rw[ak] at h;simp at h
     | cons b q=>exact⟨b,q,rfl⟩
    have Y:=κ (λw' (m:qa W1 w')=>Mx (I.o.at.on m) ap.o ak 0 w2 acc);clear ak
    go_enter func30,ntmps30
    go_upto_region 1 with fail
    (try rw[J])
    clear J
    go_wp2_with (first | (go_at_call 17;(go_call ac.o as e ai ⟨rfl,d⟩;have G:=κ d;have ad:=af.o _ d;have ag:=β0 (M.o _ d);have ah:=β1 (M.o _ d);clear d)) | (go_at_call 85;(go_call Y.o _ G.o as e w4 ⟨rfl,H,t4⟩;have N:=κ H;have U:=κ t4;clear H t4)))
    go_ret;exact⟨rfl,by rw[O.o];exact N.o,ae.o.trans ((I.o.at.stay G.o).trans U.o)⟩
   ·have O:Hid (s.stepW (1,w2) acc=s.order):=κ (by unfold RmS.stepW;rw[if_neg (by rw[ab.o];decide),if_neg η,if_pos rfl]);have Y:=κ (λw' (m:qa W1 w')=>Lg (I.o.at.on m) ap.o 1 w2 acc)
    go_enter func30,ntmps30
    go_upto_region 1 with fail
    (try rw[J])
    clear J
    go_wp2_with (first | (go_at_call 17;(go_call ac.o as e ai ⟨rfl,d⟩;have G:=κ d;have ad:=af.o _ d;have ag:=β0 (M.o _ d);have ah:=β1 (M.o _ d);clear d)) | (go_at_call 86;(go_call Y.o _ G.o as e w4 ⟨rfl,H,t4⟩;have N:=κ H;have U:=κ t4;clear H t4)))
    go_ret;exact⟨rfl,by rw[O.o];exact N.o,ae.o.trans ((I.o.at.stay G.o).trans U.o)⟩
   ·have O:Hid (s.stepW (2,w2) acc=s.choose w2):=κ (by unfold RmS.stepW;rw[if_neg (by rw[ab.o];decide),if_neg η,if_neg η,if_pos rfl]);obtain⟨l,aa⟩:=Option.isSome_iff_exists.1 (aj.o ζ);have Y:=κ (λw' (m:qa W1 w')=>FG (I.o.at.on m) 2 w2 acc aa);clear aa
    go_enter func30,ntmps30
    go_upto_region 1 with fail
    (try rw[J])
    clear J
    go_wp2_with (first | (go_at_call 17;(go_call ac.o as e ai ⟨rfl,d⟩;have G:=κ d;have ad:=af.o _ d;have ag:=β0 (M.o _ d);have ah:=β1 (M.o _ d);clear d)) | (go_at_call 87;(go_call Y.o _ G.o as e w4 ⟨rfl,H,t4⟩;have N:=κ H;have U:=κ t4;clear H t4)))
    go_ret;exact⟨rfl,by rw[O.o];exact N.o,ae.o.trans ((I.o.at.stay G.o).trans U.o)⟩
   ·have O:Hid (s.stepW (3,w2) acc=s.rewrite w2):=κ (by unfold RmS.stepW;rw[if_neg (by rw[ab.o];decide),if_neg η,if_neg η,if_neg η,if_pos rfl]);obtain⟨l,aa⟩:=Option.isSome_iff_exists.1 (aj.o ζ);have Y:=κ (λw' (m:qa W1 w')=>CE (I.o.at.on m) 3 w2 acc aa);clear aa
    go_enter func30,ntmps30
    go_upto_region 1 with fail
    (try rw[J])
    clear J
    go_wp2_with (first | (go_at_call 17;(go_call ac.o as e ai ⟨rfl,d⟩;have G:=κ d;have ad:=af.o _ d;have ag:=β0 (M.o _ d);have ah:=β1 (M.o _ d);clear d)) | (go_at_call 88;(go_call Y.o _ G.o as e w4 ⟨rfl,H,t4⟩;have N:=κ H;have U:=κ t4;clear H t4)))
    go_ret;exact⟨rfl,by rw[O.o];exact N.o,ae.o.trans ((I.o.at.stay G.o).trans U.o)⟩
   ·have O:Hid (s.stepW (4,w2) acc=s.write w2 acc):=κ (by unfold RmS.stepW;rw[if_neg (by rw[ab.o];decide),if_neg η,if_neg η,if_neg η,if_neg η]);obtain⟨l,aa⟩:=Option.isSome_iff_exists.1 (aj.o ζ);have aJ:=ao.o.num.wr w2 l aa;have aG:=ao.o.num.book;have av:=aw.o;have Y:=κ (λw' (m:qa W1 w')=>La (I.o.at.on m) 4 w2 acc aa τ τ);clear aa aJ aG av
    go_enter func30,ntmps30
    go_upto_region 1 with fail
    (try rw[J])
    clear J
    go_wp2_with (first | (go_at_call 17;(go_call ac.o as e ai ⟨rfl,d⟩;have G:=κ d;have ad:=af.o _ d;have ag:=β0 (M.o _ d);have ah:=β1 (M.o _ d);clear d)) | (go_at_call 83;(go_call Y.o _ G.o as e w4 ⟨rfl,H,t4⟩;have N:=κ H;have U:=κ t4;clear H t4)))
    go_ret;exact⟨rfl,by rw[O.o];exact N.o,ae.o.trans ((I.o.at.stay G.o).trans U.o)⟩
end
end
section
open _root_.Go.Proofs.Tryz
section
variable {T:Nat->Tg} {w0 w w':World} {k:RmK} {vp vr:Value} {s:RmS} {F:List Nat}
theorem Li (h:RmX T w0 w k vp vr s F) (ac:s.ret.length<=1000000):Calls prog 19 #[γ k.R] w λe w'=>e= .returned (μ s.ended)/\qa w w':=by
 have J:=κ h;have U:=β7 h.blk;have ab:=β8 h.blk;obtain⟨Y,G⟩:=ν (s.closed);rw[G] at U;have I:=κ G;clear G h;cases Y with
 | false=>
  have d:Hid (s.ended=false):=κ (by unfold RmS.ended;rw[I.o];rfl);rw[d.o]
  go_enter func19,ntmps19
  go_wp2;go_ret;exact⟨rfl,qa.refl _⟩
 | true=>
  have d:Hid (s.ended=decide (s.ret.length=s.workers.length)):=κ (by unfold RmS.ended;rw[I.o];rfl);have ae: ∀H,(Builtin.len_ #[80] H #[.map (some k.M1)]).run prog w= .ok (ι s.ret.length) w:=λH=>J.o.retm.len underlying80 H
  have N:=κ (Xr J.o);rw[d.o]
  go_enter func19,ntmps19
  go_wp2_with (go_at_call 18;(go_call N.o as e w2 ⟨ad,cap,rfl,aa,M⟩;have O:=κ M;clear aa M))
  go_ret;exact⟨qZ (by rw[Bool.eq_iff_iff];simp only[beq_iff_eq,decide_eq_true_eq];omega),O.o⟩
def lfN (s:RmS) (o:Og):Nat:=match qh s.strs o with
 | some t=>t.buf.holds.length
 | none=>0
theorem D8 (h:RmX T w0 w k vp vr s F) (o:Og):lfN s o<=8:=by
 unfold lfN;cases ht:qh s.strs o with
 | none=>exact Nat.zero_le _
 | some t=>
  obtain⟨p,d,v,_,x⟩:=h.strAt ht;have G:=x.ok.fits;have H:=x.ok.room;simp only;omega
theorem Yu {f:Og->Nat} (d: ∀o,f o<=8): ∀L:List Og,(L.map f).sum<=8* L.length
 | []=>by simp
 | o::L=>by
  have G:=d o;have H:=Yu d L;rw[List.map_cons,List.sum_cons,List.length_cons];omega
theorem Lb (h:RmX T w0 w k vp vr s F):Calls prog 11 #[γ k.R] w λe w'=>e= .returned (.tuple #[ι s.queue.length,ι s.held])/\qa w w':=by
 have H:=κ h;obtain⟨d,J⟩:=ν (s.origins);have aE:=κ J;have ag:=κ h.orgsRow;rw[J] at ag;have aB:Hid (s.held=(d.map (lfN s)).sum):=κ (by rw[<-J];rfl);have aA:=κ (D8 h);have aD:Hid (d.length<=9):=κ (by rw[<-J];exact uC s);rw[aB.o];clear h J
 go_enter func11,ntmps11
 go_wp2_with (go_at_call 42;(go_call ag.o as e w1 ⟨v,rfl,ar,ap⟩;obtain⟨aU,cap,rfl,aN,an⟩:=KT ar;have aF:=κ an;have N:=κ ap;clear ar ap an))
 have aT:=aD.o;clear aN
 go_loopw [4,10] (λu ae wr=> ∃j:Nat,j<=d.length/\ae= ι j/\u= ι ((((d.take j).map (lfN s)).sum:Nat):Int)/\qa w1 wr) (λ_ ae _=>d.length-(intOf ae).toNat)
 case atStart=>exact⟨0,τ,rfl,rfl,qa.refl _⟩
 case round=>
  obtain⟨j,aR,rfl,rfl,ak⟩:=hrel;have G:=κ ak;clear ak;by_cases hlt:j<d.length
  ·have aM:(j:Int)<(d.length:Int):=by omega
   obtain⟨b,rfl,aQ,ai,U,c1⟩:=aF.o j hlt;have U:wr.cell? ⟨b,j* 2,none⟩=some (ι (d[j]).1):=by rw[G.o.cells _ _ ai];exact U
   have c1:wr.cell? ⟨b,j* 2+1,none⟩=some (ι (d[j]).2):=by rw[G.o.cells _ _ ai];exact c1
   obtain⟨t,ad⟩: ∃t,qh s.strs d[j]=some t:=yB (by rw[aE.o];exact List.getElem_mem hlt)
   have aa:Hid (((d.take (j+1)).map (lfN s)).sum=((d.take j).map (lfN s)).sum+t.buf.holds.length):=κ (by
    rw[List.take_succ_eq_append_getElem hlt,List.map_append,List.sum_append,List.map_cons,List.map_nil,List.sum_cons,List.sum_nil];unfold lfN;rw[ad]
    rfl)
   have ao:=Yu aA.o (d.take j);rw[List.length_take] at ao;have aO:((d.take j).map (lfN s)).sum<=72:=by omega
   obtain⟨p,aI,v,am,M⟩:=H.o.strAt ad;have aK:=M.ok.fits;have aL:=M.ok.room;have aJ:t.buf.holds.length<=8:=by omega
   clear aK aL ao ad;generalize d[j]=o at *;obtain⟨Y,o2⟩:=o;simp only at U c1;obtain⟨W1,I⟩:=ν (wr.alloc (.cells #[ι Y,ι o2] 50));have O:Hid (qa w W1):=κ (by rw[<-I];exact(N.o.trans G.o).al _);have aH:Hid (qa w1 W1):=κ (by rw[<-I];exact G.o.al _);have au:Hid (W1.heap[wr.heap.size]? =some (.cells #[ι Y,ι o2] 50 (0,0))):=κ (by rw[<-I];exact qj wr _);have ab:=λ(x:qt W1)=>qc x.h au.o
   have ay:=λx=>β0 (ab x);have az:=λx=>β1 (ab x);clear ab
   have av:=λ(x:qt W1)=>β13 (qc (O.o.trans x.h) H.o.blk)
   have ax:=λ(x:qt W1)=>β0 (qc (O.o.trans x.h) M.blk)
   have aw: ∀x:qt W1,(Instr.lookup 84 (.map (some k.MS)) (θ #[ι Y,ι o2]) false).run prog x.w'= .ok (γ p) x.w':=λx=>by
    have:=ya (H.o.stm.more (O.o.trans x.h)) (Y,o2) false;rw[am] at this;exact this
   have af:=κ (FT t.buf aI v (W1.drewN 1) (M.buf.on (O.o.dr 1)));obtain⟨aS,aj⟩:=ν (t.buf.holds.length);obtain⟨aV,ac⟩:=ν (((d.take j).map (lfN s)).sum);rw[aj] at af aa aJ;rw[ac] at aa aO
   (try rw[ac])
   clear aj am M ac
   go_upto_region 5 with fail
   (try rw[I])
   clear I U c1;refine Qn W1 13 13 [10] ?_
   refine NC ?_
   (refine Ql ?_;intro K ah)
   (with_reducible refine af.o.mono ?_)
   rintro e w5 ⟨rfl,rfl⟩;refine⟨_,rfl,qk ((qa.refl _).dr 1),ah _ _ ?_⟩;clear ah K
   refine Qq2 ?_
   refine qA ?_;clear ay az av ax aw;go_wp2;go_roundw
   case rel=>exact⟨j+1,τ,by go_num,by rw[aa.o];go_num,aH.o.dr 1⟩
   case measure=>simp[intOf];omega
  ·obtain rfl:j=d.length:=by omega
   have aM: ¬(d.length:Int)<(d.length:Int):=by omega
   have aC:=κ (Hp (H.o.on (N.o.trans G.o)));have aP:=β10 (qc (N.o.trans G.o) H.o.blk)
   go_wp2_with (go_at_call 44;(go_call aC.o as e w5 ⟨rfl,aq⟩;have aG:=κ aq;clear aq))
   go_ret2
   exact⟨rfl,N.o.trans (G.o.trans aG.o)⟩
end
end
end Go.Proofs.YtdgippmmaponfaaGreat
