/- Contracts of the functions that the law reaches, and plain laws; no conditions but those written at each. -/
import Derived.Test.YtlmllmonabafjaaGreatDoorMg20
namespace Go.Proofs.YtlmllmonabafjaaGreatDoor
open Go.Value renaming bool->μ,slice->δ,pointer->π,agg->θ
open Go.IntKind renaming i64->ι,u8->υ,u16->φ,u32->ω,i32->χ,u64->ψ
set_option linter.unusedSimpArgs false
set_option maxHeartbeats 8000000
set_option linter.unusedVariables false
open Go.RowKit
set_option maxRecDepth 100000
section
variable (s:LnS)
theorem XJ:(vC s 1=false/\jf s=(s,0,0,false))∨(vC s 1=true/\ ∃x A,s.A=x::A/\s.B.length≠s.room/\jf s=({s with A:=A,cur:=(xJ s.cur s.tgt x.layer x.key).1,B:=if (xJ s.cur s.tgt x.layer x.key).2.1=0 then s.B++[(x,(xJ s.cur s.tgt x.layer x.key).2.2)] else s.B},x.id,(xJ s.cur s.tgt x.layer x.key).2.1,true)):=by
 cases hm:vC s 1 with
 | false=>exact Or.inl ⟨rfl,by unfold jf;rw[if_pos hm]⟩
 | true=>
  have d:(decide (0<s.A.length)&&decide (¬s.B.length=s.room))=true:=hm;rw[Bool.and_eq_true] at d;cases hA:s.A with
  | nil=>rw[hA] at d;simp at d
  | cons x A=>exact Or.inr ⟨rfl,x,A,rfl,by simpa using d.2,by unfold jf;rw[if_neg (by rw[hm];decide),hA]⟩
theorem NO:(s.B=[]/\qY s=(s,0,false,false))∨(∃x f B,s.B=(x,f)::B/\qY s=({s with B:=B,rw:=ul s.rw x.pk f,C:=if s.C.length<s.room then s.C++[(x.id,pkB (kY s.rw x.pk f))] else s.C.tail++[(x.id,pkB (kY s.rw x.pk f))]},(if s.C.length<s.room then 0 else (s.C.head?.map (·.1)).getD 0),decide (¬s.C.length<s.room),true)):=by
 cases hB:s.B with
 | nil=>exact Or.inl ⟨rfl,by unfold qY;rw[hB]⟩
 | cons y B=>
  obtain⟨x,f⟩:=y;refine Or.inr ⟨x,f,B,rfl, ?_⟩;unfold qY vf;rw[hB];by_cases h:s.C.length<s.room<;>simp[h]
theorem uV (acc:Bool):(s.C=[]/\qX s acc=(s,0,0,false))∨(∃o C,s.C=o::C/\((jo s acc).2.2=false/\qX s acc=({s with C:=if acc then C else o::C,W:=if acc then s.W++[o] else s.W,row:=(jo s acc).1,gone:=(jo s acc).2.1},o.1,(if acc then 1 else 0),true)∨
  acc=false/\s.gone=false/\(jo s acc).2.1=true/\qX s acc=({s with A:=[],B:=[],C:=[],row:=(jo s acc).1,gone:=(jo s acc).2.1},o.1,7,true))):=by
 cases hC:s.C with
 | nil=>exact Or.inl ⟨rfl,by unfold qX;rw[hC]⟩
 | cons o C=>
  refine Or.inr ⟨o,C,rfl, ?_⟩;cases hb:(jo s acc).2.2 with
  | false=>exact Or.inl ⟨rfl,by unfold qX;rw[hC];simp[hb]⟩
  | true=>
   have d:s.gone=false:=by
    cases d:s.gone with
    | false=>rfl
    | true=>unfold jo at hb;rw[if_pos d] at hb;simp at hb
   have H:acc=false:=by
    cases acc with
    | false=>rfl
    | true=>unfold jo at hb;rw[if_neg (by rw[d];decide),if_pos rfl] at hb;simp at hb
   subst H;have G:(jo s false).2.1=(jo s false).2.2:=by unfold jo;rw[if_neg (by rw[d];decide)];rfl
   exact Or.inr ⟨rfl,d,by rw[G];exact hb,by unfold qX;rw[hC];simp[hb]⟩
end
def xI (s:LnS):List Int:=s.A.map (·.id)++s.B.map (·.1.id)++s.C.map (·.1)
theorem QC (m:Bk) (sub f:Int) (k:Int×Int):qh (vM m sub f) k=(qh m k).map λv=>if k.1=sub/\v=0 then f else v:=by
 unfold vM
 induction m with
 | nil=>simp[qh]
 | cons p l ih=>
  obtain⟨⟨a,c⟩,g⟩:=p;simp only[List.map_cons];by_cases h:a=sub/\g=0
  ·rw[if_pos h];unfold qh;by_cases e:k=(a,c)
   ·subst e;simp[h]
   ·simp[e,ih]
  ·rw[if_neg h];unfold qh;by_cases e:k=(a,c)
   ·subst e;simp[h]
   ·simp[e,ih]
def xM (strs:List (Og×zu)) (id:Int):Prop:= ∃o t,qh strs o=some t/\id∈thJ t.buf.holds
structure qR (P:Int->Int->Prop) (s:RmS):Prop where
 org: ∀o t,qh s.strs o=some t->o∈orgs
 nd: ∀o t,qh s.strs o=some t->(thJ t.buf.holds).Nodup
 dis: ∀o t o' t',qh s.strs o=some t->qh s.strs o'=some t'-> ∀id,id∈thJ t.buf.holds->id∈thJ t'.buf.holds->o=o'
 few: ∀o t,qh s.strs o=some t-> ∀id∈thJ t.buf.holds,0<=id/\id<(s.pks.length:Int)
 sub: ∀x l,qh s.lanes x=some l->x∈subIds/\1<=l.room/\(xI l).Nodup
 owd: ∀x l,qh s.lanes x=some l-> ∀id∈xI l,qh s.book (x,id)=some 0/\ ¬xM s.strs id/\ ¬P x id
 src: ∀x id,qh s.book (x,id)=some 0-> ∃l,qh s.lanes x=some l/\l.gone=false/\l.wanted=true/\(id∈xI l∨xM s.strs id∨P x id)
 bel: ∀x id v,qh s.book (x,id)=some v->0<=id/\id<(s.pks.length:Int)
def OwO (s:RmS):Prop:=qR (λ_ _=>False) s
theorem ye (b:Bk) (x id f:Int) (d:1<=f/\f<=8) (k:Int×Int):qh (jp b x id f) k=if k=(x,id)/\qh b k=some 0 then some f else qh b k:=by
 unfold jp;by_cases h:qh b (x,id)=some 0
 ·rw[if_pos h];unfold zi;rw[if_pos d,if_pos (by rw[h];rfl),if_pos (by rw[h];rfl),qF];by_cases e:k=(x,id)
  ·rw[if_pos e,if_pos ⟨e,by rw[e];exact h⟩]
  ·rw[if_neg e,if_neg (λc=>e c.1)]
 ·rw[if_neg h];by_cases e:k=(x,id)
  ·rw[if_neg (λc=>h (by rw[<-e];exact c.2))]
  ·rw[if_neg (λc=>e c.1)]
theorem yO (x f:Int) (H:1<=f/\f<=8) (k:Int×Int): ∀(E:List Int) (b:Bk),qh (E.foldl (λb id=>jp b x id f) b) k=if (k.1=x/\k.2∈E)/\qh b k=some 0 then some f else qh b k
 | [],b=>by simp
 | id::E,b=>by
  rw[List.foldl_cons,yO x f H k E,ye b x id f H];obtain⟨G,d⟩:=k;have I:f≠0:=by omega
  by_cases h0:qh b (G,d)=some 0
  ·by_cases e:G=x<;>by_cases e2:d=id<;>by_cases e3:d∈E<;>simp[h0,e,e2,e3]
   all_goals (simp_all)
  ·by_cases e:G=x<;>by_cases e2:d=id<;>by_cases e3:d∈E<;>simp[h0]
theorem yv (id f:Int) (H:1<=f/\f<=8) (k:Int×Int): ∀(E:List Int) (b:Bk),qh (xG b E id f) k=if (k.2=id/\k.1∈E)/\qh b k=some 0 then some f else qh b k
 | [],b=>by simp[xG]
 | x::E,b=>by
  have I:=yv id f H k E (jp b x id f);unfold xG at I ⊢;rw[List.foldl_cons,I,ye b x id f H];obtain⟨d,G⟩:=k;have J:f≠0:=by omega
  by_cases h0:qh b (d,G)=some 0
  ·by_cases e:G=id<;>by_cases e2:d=x<;>by_cases e3:d∈E<;>simp[h0,e,e2,e3]
   all_goals (simp_all)
  ·by_cases e:G=id<;>by_cases e2:d=x<;>by_cases e3:d∈E<;>simp[h0]
section
variable {P P':Int->Int->Prop} {s s':RmS}
theorem qR.iff (h:qR P s) (e: ∀x i,P x i↔P' x i):qR P' s:=
  ⟨h.org,h.nd,h.dis,h.few,h.sub,λx l J i hi=>by obtain⟨d,G,H⟩:=h.owd x l J i hi;exact⟨d,G,λc=>H ((e x i).2 c)⟩,
   λx i hi=>by obtain⟨l,d,G,H,I⟩:=h.src x i hi;exact⟨l,d,G,H,by rw[<-e];exact I⟩,h.bel⟩
theorem qR.same (h:qR P s) (Y:s'.strs=s.strs) (aa:s'.lanes=s.lanes) (ab:s'.book=s.book) (ac:s'.pks=s.pks):qR P s':=by
 obtain⟨J,N,O,H,U,d,G,I⟩:=h;rw[<-Y] at J N O H d G;rw[<-aa] at U d G;rw[<-ab] at d G I;rw[<-ac] at H I;exact⟨J,N,O,H,U,d,G,I⟩
theorem qR.laneN (h:qR P s) {x:Int} {l l':LnS} (N:qh s.lanes x=some l) (J E:List Int) (f:Int) (ab:1<=f/\f<=8) (ad:(xI l'++E).Perm (J++xI l)) (ae: ∀i∈J,P x i/\ ¬xM s.strs i/\qh s.book (x,i)=some 0) (U:J.Nodup) (al:l'.room=l.room) (aj:l'.gone=l.gone) (am:l.wanted=true->l'.wanted=true):
  qR (λy i=>P y i/\ ¬(y=x/\i∈J)) {s with lanes:=qx s.lanes x l',book:=E.foldl (λb id=>jp b x id f) s.book}:=by
 have ai:f≠0:=by omega
 have ak:(xI l'++E).Nodup:=by
  rw[ad.nodup_iff,List.nodup_append];refine⟨U,(h.sub x l N).2.2,λa ag b ah e=> ?_⟩;subst e;exact(h.owd x l N a ah).2.2 (ae a ag).1
 have U:=List.nodup_append.1 ak;refine⟨h.org,h.nd,h.dis,h.few,λy m G=> ?_,λy m G id ac=> ?_,λy id O=> ?_,λy id v Y=> ?_⟩
 ·rw[qF] at G;split at G
  ·rename_i e;injection G with e2
   subst e e2;exact⟨(h.sub _ l N).1,by rw[al];exact(h.sub _ l N).2.1,U.1⟩
  ·exact h.sub y m G
 ·simp only at G ⊢;rw[qF] at G;rw[yO x f ab];split at G
  ·rename_i e;injection G with e2
   subst e e2;have af: ¬id∈E:=λc=>U.2.2 id ac id c rfl
   rw[if_neg (λc=>af c.1.2)];rcases List.mem_append.1 (ad.subset (List.mem_append_left _ ac)) with hi | hi
   ·obtain⟨I,H,d⟩:=ae id hi;exact⟨d,H,λc=>c.2 ⟨rfl,hi⟩⟩
   ·obtain⟨I,H,d⟩:=h.owd y l N id hi;exact⟨I,H,λc=>d c.1⟩
  ·rename_i e;obtain⟨I,H,d⟩:=h.owd y m G id ac;exact⟨by rw[if_neg (λc=>e c.1.1)];exact I,H,λc=>d c.1⟩
 ·simp only at O ⊢;rw[yO x f ab] at O;split at O
  ·injection O with e
   exact absurd e ai
  ·rename_i aa;obtain⟨m,G,I,H,d⟩:=h.src y id O;rw[qF];by_cases e:y=x
   ·subst e;rw[N] at G;injection G with e2
    subst e2;refine⟨l',by rw[if_pos rfl],by rw[aj];exact I,am H, ?_⟩;have key:id∈J++xI l->id∈xI l':=λd=>by
     rcases List.mem_append.1 (ad.symm.subset d) with h4 | h4
     ·exact h4
     ·exact absurd ⟨⟨rfl,h4⟩,O⟩ aa
    rcases d with d | d | d
    ·exact Or.inl (key (List.mem_append_right _ d))
    ·exact Or.inr (Or.inl d)
    ·by_cases hi:id∈J
     ·exact Or.inl (key (List.mem_append_left _ hi))
     ·exact Or.inr (Or.inr ⟨d,λc=>hi c.2⟩)
   ·refine⟨m,by rw[if_neg e];exact G,I,H, ?_⟩;rcases d with d | d | d
    ·exact Or.inl d
    ·exact Or.inr (Or.inl d)
    ·exact Or.inr (Or.inr ⟨d,λc=>e c.1⟩)
 ·simp only at Y;rw[yO x f ab] at Y;split at Y
  ·rename_i aa;exact h.bel y id 0 aa.2
  ·exact h.bel y id v Y
theorem qR.lane (h:qR P s) {x:Int} {l l':LnS} (H:qh s.lanes x=some l) (E:List Int) (f:Int) (d:1<=f/\f<=8) (I:(xI l'++E).Perm (xI l)) (J:l'.room=l.room) (G:l'.gone=l.gone) (N:l.wanted=true->l'.wanted=true):
  qR P {s with lanes:=qx s.lanes x l',book:=E.foldl (λb id=>jp b x id f) s.book}:=
 (h.laneN H [] E f d I (λi hi=>by simp at hi) List.nodup_nil J G N).iff λy i=>by simp
theorem qR.endL (h:qR P s) (x:Int) {L:List (Int×LnS)} {b:Bk} (J: ∀y,y≠x->qh L y=qh s.lanes y) (U: ∀m,qh L x=some m->x∈subIds/\1<=m.room/\xI m=[])
  (I: ∀y i,y≠x->qh b (y,i)=qh s.book (y,i)) (Y: ∀i,qh b (x,i)≠some 0) (aa: ∀i v,qh b (x,i)=some v-> ∃v',qh s.book (x,i)=some v'):qR P {s with lanes:=L,book:=b}:=by
 refine⟨h.org,h.nd,h.dis,h.few,λy m d=> ?_,λy m d i hi=> ?_,λy i H=> ?_,λy i v G=> ?_⟩
 ·by_cases e:y=x
  ·subst e;obtain⟨N,O,a3⟩:=U m d;exact⟨N,O,by rw[a3];exact List.nodup_nil⟩
  ·exact h.sub y m (by rw[<-J y e];exact d)
 ·by_cases e:y=x
  ·subst e;obtain⟨N,O,a3⟩:=U m d;rw[a3] at hi;simp at hi
  ·simp only at d ⊢;rw[I y i e];exact h.owd y m (by rw[<-J y e];exact d) i hi
 ·by_cases e:y=x
  ·subst e;exact absurd H (Y i)
  ·simp only at H ⊢;rw[I y i e] at H;rw[J y e];exact h.src y i H
 ·by_cases e:y=x
  ·subst e;obtain⟨v',ab⟩:=aa i v G;exact h.bel y i v' ab
  ·simp only at G;rw[I y i e] at G;exact h.bel y i v G
theorem held_put {strs:List (Og×zu)} {o:Og} {t':zu} {i:Int}:xM (qx strs o t') i↔i∈thJ t'.buf.holds∨ ∃G t,G≠o/\qh strs G=some t/\i∈thJ t.buf.holds:=by
 constructor
 ·rintro⟨G,t,d,H⟩;rw[qF] at d;by_cases e:G=o
  ·rw[if_pos e] at d;injection d with e1
   subst e1;exact Or.inl H
  ·rw[if_neg e] at d;exact Or.inr ⟨G,t,e,d,H⟩
 ·rintro(h | ⟨G,t,e,d,H⟩)
  ·exact⟨o,t',by rw[qF,if_pos rfl],h⟩
  ·exact⟨G,t,by rw[qF,if_neg e];exact d,H⟩
theorem qR.shrink (h:qR P s) {o:Og} {t t':zu} (I:qh s.strs o=some t) (E:List Int) (N:(thJ t'.buf.holds++E).Perm (thJ t.buf.holds)):
  qR (λx i=>P x i∨i∈E) {s with strs:=qx s.strs o t'}/\(∀i∈E,¬xM (qx s.strs o t') i)/\ ∀i,xM (qx s.strs o t') i->xM s.strs i:=by
 have ak:=N.nodup_iff.2 (h.nd o t I);have U:=List.nodup_append.1 ak;have ab: ∀i,xM (qx s.strs o t') i->xM s.strs i:=λi hi=>by
  rcases held_put.1 hi with J | ⟨G,u,_,O,h3⟩
  ·exact⟨o,t,I,N.subset (List.mem_append_left _ J)⟩
  ·exact⟨G,u,O,h3⟩
 have am: ∀i,xM s.strs i->xM (qx s.strs o t') i∨i∈E:=λi ⟨G,u,J,O⟩=>by
  by_cases e:G=o
  ·subst e;rw[I] at J;injection J with e1
   subst e1;rcases List.mem_append.1 (N.symm.subset O) with h3 | h3
   ·exact Or.inl (held_put.2 (Or.inl h3))
   ·exact Or.inr h3
  ·exact Or.inl (held_put.2 (Or.inr ⟨G,u,e,J,O⟩))
 refine⟨⟨λG u d=> ?_,λG u d=> ?_,λan ao o2 ap Y aa i ah ai=> ?_,λG u d i hi=> ?_,h.sub,λx l aj i hi=> ?_,λx i al=> ?_,h.bel⟩,λi hi ag=> ?_,ab⟩
 ·rw[qF] at d;split at d
  ·rename_i e;rw[e];exact h.org o t I
  ·exact h.org G u d
 ·rw[qF] at d;split at d
  ·injection d with e
   subst e;exact U.1
  ·exact h.nd G u d
 ·simp only[qF] at Y aa;have q: ∀{G:Og} {u:zu},(if G=o then some t' else qh s.strs G)=some u->i∈thJ u.buf.holds-> ∃v,qh s.strs G=some v/\i∈thJ v.buf.holds:=by
   intro G u d hi;split at d
   ·rename_i e;injection d with e2
    subst e2;exact⟨t,by rw[e];exact I,N.subset (List.mem_append_left _ hi)⟩
   ·exact⟨u,d,hi⟩
  obtain⟨v1,ac,ae⟩:=q Y ah;obtain⟨v2,ad,af⟩:=q aa ai;exact h.dis an v1 o2 v2 ac ad i ae af
 ·simp only at d;rw[qF] at d;split at d
  ·injection d with e
   subst e;exact h.few o t I i (N.subset (List.mem_append_left _ hi))
  ·exact h.few G u d i hi
 ·obtain⟨a,b,c⟩:=h.owd x l aj i hi;refine⟨a,λH=>b (ab i H),λH=>H.elim c λH=>b ⟨o,t,I,N.subset (List.mem_append_right _ H)⟩⟩
 ·obtain⟨l,a,b,c,H⟩:=h.src x i al;refine⟨l,a,b,c, ?_⟩;rcases H with H | H | H
  ·exact Or.inl H
  ·rcases am i H with e | e
   ·exact Or.inr (Or.inl e)
   ·exact Or.inr (Or.inr (Or.inr e))
  ·exact Or.inr (Or.inr (Or.inl H))
 ·rcases held_put.1 ag with J | ⟨G,u,e,O,h3⟩
  ·exact U.2.2 i J i hi rfl
  ·exact e (h.dis G u o t O I i h3 (N.subset (List.mem_append_right _ hi)))
theorem qR.keep (h:qR P s) {o:Og} {t t':zu} (d:qh s.strs o=some t) (e:t'.buf.holds=t.buf.holds):qR P {s with strs:=qx s.strs o t'}:=
 (h.shrink (t':=t') d [] (by rw[e,List.append_nil])).1.iff λx i=>by simp
theorem qR.strNew (h:qR P s) {o:Og} {t':zu} (ac:o∈orgs) (ab:qh s.strs o=none) (e:t'.buf.holds=[]):qR P {s with strs:=qx s.strs o t'}:=by
 have k: ∀i,xM (qx s.strs o t') i↔xM s.strs i:=λi=>by
  rw[held_put,e];constructor
  ·rintro(Y | ⟨G,u,_,H,I⟩)
   ·simp[thJ] at Y
   ·exact⟨G,u,H,I⟩
  ·rintro⟨G,u,H,I⟩;exact Or.inr ⟨G,u,(λc=>by rw[c,ab] at H;cases H),H,I⟩
 refine⟨λG u d=> ?_,λG u d=> ?_,λae af o2 ag O U i J N=> ?_,λG u d i hi=> ?_,h.sub,λx l aa i hi=> ?_,λx i ad=> ?_,h.bel⟩
 ·rw[qF] at d;split at d
  ·rename_i e;rw[e];exact ac
  ·exact h.org G u d
 ·rw[qF] at d;split at d
  ·injection d with e2
   subst e2;rw[e];exact List.nodup_nil
  ·exact h.nd G u d
 ·simp only[qF] at O U;have q: ∀{G:Og} {u:zu},(if G=o then some t' else qh s.strs G)=some u->i∈thJ u.buf.holds->qh s.strs G=some u:=by
   intro G u d hi;split at d
   ·injection d with e2
    subst e2;rw[e] at hi;simp[thJ] at hi
   ·exact d
  exact h.dis ae af o2 ag (q O J) (q U N) i J N
 ·simp only at d;rw[qF] at d;split at d
  ·injection d with e2
   subst e2;rw[e] at hi;simp[thJ] at hi
  ·exact h.few G u d i hi
 ·rw[k];exact h.owd x l aa i hi
 ·simp only[k];exact h.src x i ad
theorem qR.grow (h:qR P s) {o:Og} {t t':zu} (N:qh s.strs o=some t) (I:Int) (O:(thJ t'.buf.holds).Perm (I::thJ t.buf.holds)) (hi:0<=I/\I<(s.pks.length:Int)) (ad: ¬xM s.strs I) (ap: ∀x l,qh s.lanes x=some l->I∉xI l):
  qR (λx i=>P x i/\i≠I) {s with strs:=qx s.strs o t'}:=by
 have ar:(thJ t'.buf.holds).Nodup:=by
  rw[O.nodup_iff,List.nodup_cons];exact⟨λc=>ad ⟨o,t,N,c⟩,h.nd o t N⟩
 have ae: ∀i,xM (qx s.strs o t') i↔i=I∨xM s.strs i:=λi=>by
  rw[held_put];constructor
  ·rintro(ac | ⟨G,u,_,U,Y⟩)
   ·rcases List.mem_cons.1 (O.subset ac) with h4 | h4
    ·exact Or.inl h4
    ·exact Or.inr ⟨o,t,N,h4⟩
   ·exact Or.inr ⟨G,u,U,Y⟩
  ·rintro(ac | ⟨G,u,U,Y⟩)
   ·exact Or.inl (O.symm.subset (by rw[ac];exact List.mem_cons_self))
   ·by_cases e:G=o
    ·subst e;rw[N] at U;injection U with aa
     subst aa;exact Or.inl (O.symm.subset (List.mem_cons_of_mem _ Y))
    ·exact Or.inr ⟨G,u,e,U,Y⟩
 refine⟨λG u d=> ?_,λG u d=> ?_,λam av o2 aw ak al i aq J=> ?_,λG u d i J=> ?_,h.sub,λx l aj i J=> ?_,λx i au=> ?_,h.bel⟩
 ·rw[qF] at d;split at d
  ·rename_i e;rw[e];exact h.org o t N
  ·exact h.org G u d
 ·rw[qF] at d;split at d
  ·injection d with e
   subst e;exact ar
  ·exact h.nd G u d
 ·simp only[qF] at ak al;have q: ∀{G:Og} {u:zu},(if G=o then some t' else qh s.strs G)=some u->i∈thJ u.buf.holds->(i=I/\G=o)∨ ∃v,qh s.strs G=some v/\i∈thJ v.buf.holds:=by
   intro G u d hi;split at d
   ·rename_i e;injection d with ab
    subst ab;rcases List.mem_cons.1 (O.subset hi) with h4 | h4
    ·exact Or.inl ⟨h4,e⟩
    ·exact Or.inr ⟨t,by rw[e];exact N,h4⟩
   ·exact Or.inr ⟨u,d,hi⟩
  rcases q ak aq with ⟨aa,ab⟩ | ⟨v1,af,ah⟩<;>rcases q al J with ⟨an,ao⟩ | ⟨v2,ag,ai⟩
  ·rw[ab,ao]
  ·exact absurd ⟨o2,v2,ag,by rw[<-aa];exact ai⟩ ad
  ·exact absurd ⟨am,v1,af,by rw[<-an];exact ah⟩ ad
  ·exact h.dis am v1 o2 v2 af ag i ah ai
 ·simp only at d;rw[qF] at d;split at d
  ·injection d with e
   subst e;rcases List.mem_cons.1 (O.subset J) with h4 | h4
   ·rw[h4];exact hi
   ·exact h.few o t N i h4
  ·exact h.few G u d i J
 ·obtain⟨a,b,c⟩:=h.owd x l aj i J;refine⟨a,λH=> ?_,λH=>c H.1⟩;rcases(ae i).1 H with e | e
  ·exact ap x l aj (by rw[<-e];exact J)
  ·exact b e
 ·obtain⟨l,a,b,c,H⟩:=h.src x i au;refine⟨l,a,b,c, ?_⟩;rcases H with H | H | H
  ·exact Or.inl H
  ·exact Or.inr (Or.inl ((ae i).2 (Or.inr H)))
  ·by_cases e:i=I
   ·exact Or.inr (Or.inl ((ae i).2 (Or.inl e)))
   ·exact Or.inr (Or.inr ⟨H,e⟩)
theorem qR.settled (h:qR P s) (L:List Int) (H f:Int) (N:1<=f/\f<=8) (U: ∀x,qh s.book (x,H)=some 0->x∈L) (Y: ∀x l,qh s.lanes x=some l->H∉xI l):
  qR (λx i=>P x i/\i≠H) {s with book:=xG s.book L H f}:=by
 have aa:f≠0:=by omega
 refine⟨h.org,h.nd,h.dis,h.few,h.sub,λx l O i hi=> ?_,λx i G=> ?_,λx i v I=> ?_⟩
 ·obtain⟨a,b,c⟩:=h.owd x l O i hi;simp only;rw[yv H f N,if_neg (λe=>Y x l O (by rw[<-e.1.1];exact hi))];exact⟨a,b,λd=>c d.1⟩
 ·simp only at G ⊢;rw[yv H f N] at G;split at G
  ·injection G with e
   exact absurd e aa
  ·rename_i J;obtain⟨l,a,b,c,d⟩:=h.src x i G;refine⟨l,a,b,c, ?_⟩;rcases d with d | d | d
   ·exact Or.inl d
   ·exact Or.inr (Or.inl d)
   ·exact Or.inr (Or.inr ⟨d,λe=>J ⟨⟨e,U x (by rw[<-e];exact G)⟩,G⟩⟩)
 ·simp only at I;rw[yv H f N] at I;split at I
  ·rename_i J;exact h.bel x i 0 J.2
  ·exact h.bel x i v I
end
theorem Kt (l:LnS):(xI (jf l).1++(if (jf l).2.2.2&& !decide ((jf l).2.2.1=0) then [(jf l).2.1] else [])).Perm (xI l)/\(jf l).1.room=l.room/\(jf l).1.gone=l.gone/\(jf l).1.wanted=l.wanted/\(jf l).2.2.1<=8/\0<=(jf l).2.2.1:=by
 rcases XJ l with ⟨_,e⟩ | ⟨_,x,A,d,_,e⟩
 ·rw[e];simp
 ·rw[e];refine⟨?_,rfl,rfl,rfl, ?_⟩
  ·unfold xI;rw[d];by_cases ht:(xJ l.cur l.tgt x.layer x.key).2.1=0
   ·simp only[ht,if_true,decide_true,Bool.not_true,Bool.and_false,Bool.false_eq_true,if_false,List.append_nil,List.map_append,List.map_cons,List.map_nil];rw[List.perm_iff_count];intro a;simp only[List.count_append,List.count_cons,List.count_nil];omega
   ·simp only[ht,if_false,decide_false,Bool.not_false,Bool.and_true,if_true,List.map_cons];rw[List.perm_iff_count];intro a;simp only[List.count_append,List.count_cons,List.count_nil];omega
  ·unfold xJ
   repeat' split
   all_goals (simp)
theorem YV (l:LnS) (h:1<=l.room):(xI (qY l).1++(if (qY l).2.2.2&&(qY l).2.2.1 then [(qY l).2.1] else [])).Perm (xI l)/\(qY l).1.room=l.room/\(qY l).1.gone=l.gone/\(qY l).1.wanted=l.wanted:=by
 rcases NO l with ⟨_,e⟩ | ⟨x,f,B,d,e⟩
 ·rw[e];simp
 ·rw[e];refine⟨?_,rfl,rfl,rfl⟩;unfold xI;rw[d];by_cases hc:l.C.length<l.room
  ·simp only[hc,if_true,not_true,decide_false,Bool.and_false,Bool.false_eq_true,if_false,List.append_nil,List.map_append,List.map_cons,List.map_nil];rw[List.perm_iff_count];intro a;simp only[List.count_append,List.count_cons,List.count_nil];omega
  ·cases hC:l.C with
   | nil=>rw[hC] at hc;simp at hc;omega
   | cons o C=>
    rw[hC] at hc;simp only[hc,if_false,not_false_eq_true,decide_true,Bool.and_true,if_true,List.map_append,List.map_cons,List.map_nil,List.tail_cons,List.head?_cons,Option.map_some,Option.getD_some];rw[List.perm_iff_count];intro a;simp only[List.count_append,List.count_cons,List.count_nil];omega
theorem Bi (l:LnS) (x:ItS) (h:1<=l.room) (d:l.gone=false) (G:l.wanted=true) (H:jJ x.pk=true) (I:jj x.layer=true):(xI (xp l x).1++(if (xp l x).2.2.1 then [(xp l x).2.1] else [])).Perm (x.id::xI l)/\(xp l x).1.room=l.room/\(xp l x).1.gone=l.gone/\(xp l x).1.wanted=l.wanted:=by
 have e:xp l x=((yX l x).1,(yX l x).2.1,(yX l x).2.2,0):=by unfold xp;rw[d,G,H,I];simp
 rw[e];unfold yX;by_cases hc:l.A.length<l.room
 ·rw[if_pos hc];refine⟨?_,rfl,rfl,rfl⟩;unfold xI;simp only[Bool.false_eq_true,if_false,List.append_nil,List.map_append,List.map_cons,List.map_nil];rw[List.perm_iff_count];intro a;simp only[List.count_append,List.count_cons,List.count_nil];omega
 ·rw[if_neg hc];refine⟨?_,rfl,rfl,rfl⟩;unfold xI;cases hA:l.A with
  | nil=>rw[hA] at hc;simp at hc;omega
  | cons o A=>
   simp only[if_true,List.map_append,List.map_cons,List.map_nil,List.tail_cons,List.head?_cons,Option.map_some,Option.getD_some];rw[List.perm_iff_count];intro a;simp only[List.count_append,List.count_cons,List.count_nil];omega
theorem UV (l:LnS) (n:Int) (d:n=1∨n=2∨n=3):(xI (vh l n)++KG l n).Perm (xI l):=by
 unfold xI vh KG;rcases d with rfl | rfl | rfl<;>simp only[if_true,(by decide: ¬(2:Int)=1),(by decide: ¬(3:Int)=1),(by decide: ¬(3:Int)=2),(by decide: ¬(1:Int)=2),(by decide: ¬(1:Int)=3),(by decide: ¬(2:Int)=3),if_false,List.map_nil,List.nil_append,List.append_nil]
 ·rw[List.perm_iff_count];intro a;simp only[List.count_append];omega
 ·rw[List.perm_iff_count];intro a;simp only[List.count_append];omega
 ·exact List.Perm.refl _
section
variable {P P':Int->Int->Prop} {s s':RmS}
theorem qR.fin (h:qR P s) (J: ∀y i,P y i->y∈subIds->False):OwO s:=
  ⟨h.org,h.nd,h.dis,h.few,h.sub,λx l N i hi=>by obtain⟨G,H,_⟩:=h.owd x l N i hi;exact⟨G,H,λc=>c⟩,
   λx i hi=>by
    obtain⟨l,G,H,I,d⟩:=h.src x i hi
    refine⟨l,G,H,I, ?_⟩
    rcases d with d | d | d
    · exact Or.inl d
    · exact Or.inr (Or.inl d)
    · exact(J x i d (h.sub x l G).1).elim,h.bel⟩
theorem qR.choose (h:qR P s) (x:Int):qR P (s.choose x):=by
 unfold RmS.choose;cases hl:qh s.lanes x with
 | none=>exact h
 | some l=>
  obtain⟨d,H,G,I,N,J⟩:=Kt l;simp only;cases hc:(jf l).2.2.2&& !decide ((jf l).2.2.1=0) with
  | false=>
   rw[hc] at d;simp only[Bool.false_eq_true,if_false] at d ⊢;exact h.lane hl [] 1 ζ d H G (λe=>by rw[I];exact e)
  | true=>
   rw[hc] at d;simp only[if_true] at d ⊢;have:(jf l).2.2.1≠0:=by
    intro e;rw[e] at hc;simp at hc
   exact h.lane hl [(jf l).2.1] (jf l).2.2.1 τ d H G (λe=>by rw[I];exact e)
theorem qR.rewrite (h:qR P s) (x:Int):qR P (s.rewrite x):=by
 unfold RmS.rewrite;cases hl:qh s.lanes x with
 | none=>exact h
 | some l=>
  obtain⟨d,H,G,I⟩:=YV l (h.sub x l hl).2.1;simp only;cases hc:(qY l).2.2.2&&(qY l).2.2.1 with
  | false=>
   rw[hc] at d;simp only[Bool.false_eq_true,if_false] at d ⊢;exact h.lane hl [] 1 ζ d H G (λe=>by rw[I];exact e)
  | true=>
   rw[hc] at d;simp only[if_true] at d ⊢;exact h.lane hl [(qY l).2.1] 6 ζ d H G (λe=>by rw[I];exact e)
theorem qR.drainL (h:qR P s) (w:Og):qR P (s.drainL w):=by
 unfold RmS.drainL;cases hl:qh s.lanes w.2 with
 | none=>exact h
 | some l=>
  simp only;refine h.lane hl (KG l (xB w.1)) 8 ζ (UV l _ ?_) rfl rfl (λe=>e);unfold xB
  repeat' split
  all_goals simp
theorem VR (m:Bk) (x i:Int) {f:Int} (d:f≠0):qh (vM m x f) (x,i)≠some 0:=by
 rw[QC];cases qh m (x,i) with
 | none=>simp
 | some v=>
  simp only[Option.map_some,true_and];split
  ·intro e;injection e with e;exact d e
  ·rename_i G;intro e;injection e with e;exact G e
theorem XH (m:Bk) {x y:Int} (i f:Int) (h:y≠x):qh (vM m x f) (y,i)=qh m (y,i):=by
 rw[QC];cases qh m (y,i) with
 | none=>rfl
 | some v=>simp[h]
theorem VQ (m:Bk) (x i f v:Int) (h:qh (vM m x f) (x,i)=some v): ∃v',qh m (x,i)=some v':=by
 rw[QC] at h;cases hm:qh m (x,i) with
 | none=>rw[hm] at h;cases h
 | some v'=>exact⟨v',rfl⟩
theorem qR.write (h:qR P s) (x:Int) (acc:Bool):qR P (s.write x acc):=by
 unfold RmS.write;cases hl:qh s.lanes x with
 | none=>exact h
 | some l=>
  have ac:l.gone=true->xI l=[]:=λd=>by
   cases hi:xI l with
   | nil=>rfl
   | cons i L=>
    obtain⟨ad,_⟩:=h.owd x l hl i (by rw[hi];exact List.mem_cons_self);obtain⟨af,U,Y,_⟩:=h.src x i ad;rw[hl] at U;injection U with e
    subst e;rw[d] at Y;cases Y
  simp only;cases d:(qX l acc).1.gone with
  | true=>
   have hi:(qX l acc).1.room=l.room/\xI (qX l acc).1=[]:=by
    rcases uV l acc with ⟨_,e⟩ | ⟨o,C,N,⟨G,e⟩ | ⟨_,_,_,e⟩⟩
    ·rw[e] at d ⊢;exact⟨rfl,ac d⟩
    ·rw[e] at d;simp only at d;exfalso;have H:l.gone=true:=by
      cases H:l.gone with
      | true=>rfl
      | false=>
       unfold jo at G d;rw[if_neg (by rw[H];decide)] at G d;cases acc with
       | true=>simp at d
       | false=>
        simp only[Bool.false_eq_true,if_false] at G d;rw[G] at d;cases d
     have:=ac H;unfold xI at this;rw[N] at this;simp at this
    ·rw[e];exact⟨rfl,rfl⟩
   simp only[if_true];obtain⟨b,G,aa⟩: ∃b,(if (qX l acc).2.2.2&&decide ((qX l acc).2.2.1=1) then jp s.book x (qX l acc).2.1 (qX l acc).2.2.1 else s.book)=b/\(∀y i,y≠x->qh b (y,i)=qh s.book (y,i))/\ ∀i v,qh b (x,i)=some v-> ∃v',qh s.book (x,i)=some v':=by
    refine⟨_,rfl, ?_⟩;split
    ·rename_i O;rw[Bool.and_eq_true] at O;have:(qX l acc).2.2.1=1:=of_decide_eq_true O.2;rw[this];refine⟨λy i J=> ?_,λi v I=> ?_⟩
     ·rw[ye _ _ _ _ ζ,if_neg (λc=>J (by have:=congrArg Prod.fst c.1;exact this))]
     ·rw[ye _ _ _ _ ζ] at I;split at I
      ·rename_i O;exact⟨0,O.2⟩
      ·exact⟨v,I⟩
    ·exact⟨λy i J=>rfl,λi v I=>⟨v,I⟩⟩
   rw[G];refine(h.endL x (L:=qx s.lanes x (qX l acc).1) (b:=vM b x 7) (λy J=>by rw[qF,if_neg J]) (λm ab=> ?_) (λy i J=> ?_) (λi=>VR b x i ζ) (λi v I=> ?_)).same rfl rfl rfl rfl
   ·rw[qF,if_pos rfl] at ab;injection ab with e
    subst e;exact⟨(h.sub x l hl).1,by rw[hi.1];exact(h.sub x l hl).2.1,hi.2⟩
   ·rw[XH b i 7 J];exact aa.1 y i J
   ·obtain⟨v',ae⟩:=VQ b x i 7 v I;exact aa.2 i v' ae
  | false=>
   simp only[Bool.false_eq_true,if_false];rcases uV l acc with ⟨_,e⟩ | ⟨o,C,N,⟨G,e⟩ | ⟨_,_,G,e⟩⟩
   ·rw[e] at d ⊢;simp only[Bool.false_and,Bool.false_eq_true,if_false];exact(h.lane hl [] 1 ζ (by rw[List.append_nil]) rfl rfl (λe=>e)).same rfl rfl rfl rfl
   ·rw[e] at d ⊢;simp only at d;have H:l.gone=false:=by
     cases H:l.gone with
     | false=>rfl
     | true=>
      unfold jo at d;rw[if_pos H] at d;cases d
    cases acc with
    | true=>
     simp only[if_true,Bool.true_and,decide_true];refine(h.lane (l':={l with C:=C,W:=l.W++[o],row:=(jo l true).1,gone:=(jo l true).2.1}) hl [o.1] 1 ζ ?_ rfl (by rw[H];exact d) (λe=>e)).same rfl rfl rfl rfl;unfold xI;rw[N];rw[List.perm_iff_count];intro a;simp only[List.count_append,List.map_cons,List.count_cons,List.count_nil];omega
    | false=>
     simp only[Bool.false_eq_true,if_false,(by decide: ¬(0:Int)=1),decide_false,Bool.and_false];refine(h.lane (l':={l with C:=o::C,row:=(jo l false).1,gone:=(jo l false).2.1}) hl [] 1 ζ ?_ rfl (by rw[H];exact d) (λe=>e)).same rfl rfl rfl rfl;unfold xI;rw[N,List.append_nil]
   ·rw[e] at d;simp only at d;rw[G] at d;cases d
theorem GY (d:ItS) (x:Int):(s.put1 d x).strs=s.strs/\(s.put1 d x).pks=s.pks:=by
 unfold RmS.put1;split
 ·cases qh s.lanes x with
  | none=>exact⟨rfl,rfl⟩
  | some l=>simp only;split<;>exact⟨rfl,rfl⟩
 ·exact⟨rfl,rfl⟩
theorem qR.put1 (h:qR P s) (d:ItS) (x:Int) (Y:P x d.id) (ab: ¬xM s.strs d.id) (ac:jJ d.pk=true) (ad:jj d.layer=true):
  qR (λy i=>P y i/\ ¬(y=x/\i=d.id)) (s.put1 d x):=by
 unfold RmS.put1;by_cases ho:qh s.book (x,d.id)=some 0
 ·rw[if_pos ho];obtain⟨l,I,aa,ae,_⟩:=h.src x d.id ho;rw[I];simp only;obtain⟨H,N,O,U⟩:=Bi l d (h.sub x l I).2.1 aa ae ac ad
  have key:=λE f hf (hq:(xI (xp l d).1++E).Perm ([d.id]++xI l))=>(h.laneN I [d.id] E f hf hq (λi hi=>by
   rw[List.mem_singleton] at hi;rw[hi]
   exact⟨Y,ab,ho⟩) η N O (λe=>by rw[U];exact e)).iff (P':=λy i=>P y i/\ ¬(y=x/\i=d.id)) (λy i=>by simp)
  cases hd:(xp l d).2.2.1 with
  | true=>
   rw[hd] at H;simp only[if_true] at H ⊢;exact key [(xp l d).2.1] 6 ζ H
  | false=>
   rw[hd] at H;simp only[Bool.false_eq_true,if_false] at H ⊢;exact key [] 6 ζ H
 ·rw[if_neg ho]
  exact⟨h.org,h.nd,h.dis,h.few,h.sub,λy l I i hi=>by obtain⟨a,b,c⟩:=h.owd y l I i hi;exact⟨a,b,λG=>c G.1⟩,λy i J=>by
   obtain⟨l,a,b,c,G⟩:=h.src y i J;refine⟨l,a,b,c, ?_⟩;rcases G with G | G | G
   ·exact Or.inl G
   ·exact Or.inr (Or.inl G)
   ·exact Or.inr (Or.inr ⟨G,λe=>ho (by rw[<-e.1,<-e.2];exact J)⟩),h.bel⟩
theorem qR.puts (G:ItS) (H:jJ G.pk=true) (I:jj G.layer=true): ∀(L:List Int) {P:Int->Int->Prop} {s:RmS},qR P s->L.Nodup->(∀x∈L,P x G.id)-> ¬xM s.strs G.id->
  qR (λy i=>P y i/\ ¬(y∈L/\i=G.id)) (L.foldl (RmS.put1 G) s)
 | [],P,s,h,_,_,_=>h.iff λy i=>by simp
 | x::L,P,s,h,hn,hP,hh=>by
  rw[List.nodup_cons] at hn;rw[List.foldl_cons];have N:=h.put1 G x (hP x List.mem_cons_self) hh H I;refine(qR.puts G H I L N hn.2 (λy J=>⟨hP y (List.mem_cons_of_mem _ J),λe=>hn.1 (by rw[<-e.1];exact J)⟩) (by rw[(GY G x).1];exact hh)).iff λy i=> ?_
  rw[List.mem_cons];constructor
  ·rintro⟨⟨a,b⟩,c⟩;exact⟨a,λd=>d.1.elim (λe=>b ⟨e,d.2⟩) (λe=>c ⟨e,d.2⟩)⟩
  ·rintro⟨a,b⟩;exact⟨⟨a,λd=>b ⟨Or.inl d.1,d.2⟩⟩,λd=>b ⟨Or.inr d.1,d.2⟩⟩
theorem Bt {b:Jb} {d:Int} (h:xa b d=true):(thJ (yD b d).1.holds++[(yD b d).2.2.1]).Perm (thJ b.holds):=by
 unfold yD;cases hb:b.holds with
 | nil=>unfold xa at h;rw[hb] at h;cases h
 | cons x T=>
  simp only[h,if_true];unfold xT;rw[hb];simp only[thJ,List.map_cons];exact List.perm_append_singleton _ _
theorem XD {o:Og} (h:o∈orgs):jj o.2=true:=by
 unfold orgs at h;simp only[List.mem_cons,List.not_mem_nil,or_false] at h;rcases h with rfl | rfl | rfl | rfl | rfl | rfl | rfl | rfl | rfl<;>rfl
theorem qR.order (h:OwO s) (U: ∀a∈s.pks,jJ a.pk=true):OwO s.order:=by
 unfold RmS.order;cases d:s.ready with
 | none=>exact h
 | some o=>
  simp only;cases ht:qh s.strs o with
  | none=>exact h
  | some t=>
   simp only;have Y:xa t.buf s.clock=true:=by
    have:=List.find?_some d;unfold RmS.readyAt at this;rw[ht] at this;exact this
   have H:=Bt Y;obtain⟨I,J,aa⟩:=qR.shrink h (t':={t with buf:=(yD t.buf s.clock).1}) ht [(yD t.buf s.clock).2.2.1] H;have hi:=h.few o t ht _ (H.subset (List.mem_append_right _ List.mem_cons_self));unfold RmS.orderAt;have O:jJ (s.item o (yD t.buf s.clock).2.2.1).pk=true:=by
    refine U _ ?_;have G:(yD t.buf s.clock).2.2.1.toNat<s.pks.length:=by omega
    rw[List.getD_eq_getElem?_getD,List.getElem?_eq_getElem G];exact List.getElem_mem G
   refine(qR.puts (s.item o (yD t.buf s.clock).2.2.1) O (XD (h.org o t ht)) subIds I ζ (λx _=>Or.inr List.mem_cons_self) (J _ List.mem_cons_self)).fin λy i N d=> ?_
   obtain⟨a,b⟩:=N;rcases a with a | a
   ·exact a
   ·rw[List.mem_singleton] at a;exact b ⟨d,a⟩
theorem qR.drain1s: ∀(L:List Int) {P:Int->Int->Prop} {s:RmS},qR P s->(∀i∈L,∀x l,qh s.lanes x=some l->i∉xI l)->qR (λy i=>P y i/\i∉L) (L.foldl RmS.drain1 s)
 | [],P,s,h,_=>h.iff λy i=>by simp
 | i0::L,P,s,h,hL=>by
  rw[List.foldl_cons]
  have G:qR (λx i=>P x i/\i≠i0) (s.drain1 i0):=h.settled subIds i0 8 ζ (λx H=>by
   obtain⟨l,a,_⟩:=h.src x i0 H
   exact(h.sub x l a).1) (hL i0 List.mem_cons_self)
  refine(qR.drain1s L G (λi hi=>hL i (List.mem_cons_of_mem _ hi))).iff λy i=> ?_
  rw[List.mem_cons];constructor
  ·rintro⟨⟨a,b⟩,c⟩;exact⟨a,λd=>d.elim b c⟩
  ·rintro⟨a,b⟩;exact⟨⟨a,λd=>b (Or.inl d)⟩,λd=>b (Or.inr d)⟩
theorem XG: ∀(n:Nat) (b:Jb),b.holds.length<=n->(Qr n b).holds=[]:=by
 intro n
 induction n with
 | zero=>intro b h;unfold Qr;exact List.length_eq_zero_iff.1 τ
 | succ n ih=>
  intro b h;unfold Qr;refine ih _ ?_;unfold xT;cases hb:b.holds with
  | nil=>simp only[hb];simp
  | cons x T=>rw[hb] at h;simp only[List.length_cons] at h ⊢;omega
theorem qR.drainO (h:OwO s) (o:Og):OwO (s.drainO o):=by
 unfold RmS.drainO;cases ht:qh s.strs o with
 | none=>exact h
 | some t=>
  simp only;have J:(vP t.buf).holds=[]:=XG _ _ (Nat.le_refl _);obtain⟨d,N,O⟩:=qR.shrink h (t':={t with buf:=vP t.buf}) ht (thJ t.buf.holds) (by simp only[J];exact List.Perm.refl _);refine(qR.drain1s (thJ t.buf.holds) d (λi hi x l I H=>(h.owd x l I i H).2.1 ⟨o,t,ht,hi⟩)).fin λy i G _=> ?_
  obtain⟨a,b⟩:=G;exact a.elim id b
theorem qR.drainOs: ∀(L:List Og) {s:RmS},OwO s->OwO (L.foldl RmS.drainO s)
 | [],_,h=>h
 | o::L,_,h=>qR.drainOs L (qR.drainO h o)
end
theorem Yo {s:RdS} {n:Int} (G:0<=n) (h:(tkS s n).2=0):s.2=0/\n<=s.1.length/\((tkS s n).1.length:Int)=s.1.length-n/\((tkB s.1 n).length:Int)=n:=by
 obtain⟨l,e⟩:=s;unfold tkS tkE tkL at *;simp only at h ⊢;split at h
 ·cases h
 ·rename_i H;have d:n<=(l.length:Int):=by
   rcases Int.lt_or_le (l.length:Int) n with c | c
   ·exact absurd ⟨c,h⟩ H
   ·exact c
  refine⟨h,d, ?_,(uM G d).2⟩;rw[List.length_drop];omega
theorem Yw: ∀(n:Nat) {s:RdS},(j9 n s).2.2=0->s.2=0/\4* n<=s.1.length/\(j9 n s).2.1.length=s.1.length-4* n
 | 0,s,h=>⟨h,τ,by show s.1.length=_;omega⟩
 | n+1,s,h=>by
  obtain⟨d,H,a3,_⟩:=Yo (s:=(j9 n s).2) (n:=4) ζ h;obtain⟨G,I,J⟩:=Yw n d;refine⟨G,τ, ?_⟩;show (tkS (j9 n s).2 4).1.length=_;omega
theorem us: ∀(n:Nat) {s:RdS},Byt s.1->Byt (j9 n s).2.1/\ ∀x∈(j9 n s).1,U32 x
 | 0,s,h=>⟨h,λx d=>by cases d⟩
 | n+1,s,h=>by
  obtain⟨a,b⟩:=us n h;refine⟨a.drop _,λx d=> ?_⟩;rcases List.mem_append.1 d with c | c
  ·exact b x c
  ·rw[List.mem_singleton] at c;have G:=JH (s:=(j9 n s).2) a 4 ζ;rw[c];exact⟨G.1,by have:=G.2;show num (tkB (j9 n s).2.1 ((4:Nat):Int))<=4294967295;omega⟩
theorem EA {f:Int} {s:RdS} (I:Byt s.1) (h:(vB f s).2=0):s.2=0/\(vB f s).1.length<=s.1.length/\Byt (vB f s).1:=by
 unfold vB at *;split at h
 ·rename_i d;exact absurd h d
 ·rename_i d;rw[if_neg d];have H:s.2=0:=Classical.not_not.1 d;split at h
  ·rename_i G;rw[if_pos G];split at h
   ·rename_i J;rw[if_pos J];refine⟨H, ?_⟩;simp only;unfold xL;split
    ·exact⟨Nat.zero_le _,xh⟩
    ·split
     ·exact⟨Nat.zero_le _,xh⟩
     ·exact⟨by rw[List.length_take];omega,I.take _⟩
   ·cases h
  ·rename_i G;rw[if_neg G];exact⟨H,Nat.le_refl _,I⟩
theorem Wz {l:List Int} (h: ∀x∈l,U32 x) (i:Nat):U32 (l.getD i 0):=by
 rw[List.getD_eq_getElem?_getD];cases hi:l[i]? with
 | none=>exact⟨ζ,ζ⟩
 | some x=>exact h x (List.mem_of_getElem? hi)
theorem Xc {b:List Int} (I:Byt b) (h:(jl b).2=0):uf (jl b).1/\uj (jl b).1/\jJ (jl b).1=true/\0<=(jl b).1.sq/\(jl b).1.sq<=65535:=by
 rw[<-GP] at h ⊢;unfold KS at h ⊢;split at h
 ·cases h
 ·rename_i ap;rw[if_neg ap];split at h
  ·cases h
  ·rename_i al;rw[if_neg al];split at h
   ·cases h
   ·rename_i ao;rw[if_neg ao];have J:Byt (b.drop 12):=I.drop 12;have am:Byt (yj (fH b) (b.drop 12,0)).2.1:=by
     unfold yj Qj;split
     ·exact(((us _ J).1.drop _).drop _).drop _
     ·exact(us _ J).1
    have N:(vB (fH b) (yj (fH b) (b.drop 12,0)).2).2=0:=by
     unfold JJ at h;split at h
     ·assumption
     ·rename_i an;exact absurd h an
    unfold JJ;rw[if_pos N];obtain⟨d,H,p2⟩:=EA am N;have ay:(fH b%16).toNat<=15:=by omega
    have ac:=JH (s:=s2H b) ((I.drop _).drop _) 2 ζ;have ad:=JH (s:=s3H b) (((I.drop _).drop _).drop _) 4 ζ;have ae:=JH (s:=s4H b) ((((I.drop _).drop _).drop _).drop _) 4 ζ;have G:U16 (num (tkB (s2H b).1 2)):=⟨ac.1,by have:=ac.2;show num (tkB (s2H b).1 ((2:Nat):Int))<=65535;omega⟩;have ag:U32 (num (tkB (s3H b).1 4)):=⟨ad.1,by have:=ad.2;show num (tkB (s3H b).1 ((4:Nat):Int))<=4294967295;omega⟩;have af:U32 (num (tkB (s4H b).1 4)):=⟨ae.1,by have:=ae.2;show num (tkB (s4H b).1 ((4:Nat):Int))<=4294967295;omega⟩;have ax:(b.drop 12).length=b.length-12:=List.length_drop;unfold mkH;by_cases hx:fH b/16%2=1
    ·have e:yj (fH b) (b.drop 12,0)=(((j9 (fH b%16).toNat (b.drop 12,0)).1,(Qj (j9 (fH b%16).toNat (b.drop 12,0)).2).1.1,(Qj (j9 (fH b%16).toNat (b.drop 12,0)).2).1.2),(Qj (j9 (fH b%16).toNat (b.drop 12,0)).2).2):=by
      unfold yj;rw[if_pos hx]
     rw[e] at d H p2 N ⊢;obtain⟨O,ab⟩:=us (fH b%16).toNat (s:=(b.drop 12,0)) J;have aq:=gN (fH b%16).toNat (b.drop 12,0);have aa:=λh=>Yw (fH b%16).toNat (s:=(b.drop 12,0)) h
     generalize j9 (fH b%16).toNat (b.drop 12,0)=r at *;have ah:=JH (s:=r.2) O 2 ζ;have ar:=JH (s:=tkS r.2 2) (O.drop _) 2 ζ;unfold Qj at d H p2 ⊢;simp only at d H p2 ⊢;obtain⟨ai,au,a3,a4⟩:=Yo (by have:=ar.1;show 0<=4* num (tkB (tkS r.2 2).1 ((2:Nat):Int));omega) d;obtain⟨aj,av,aw,_⟩:=Yo ζ ai;obtain⟨c1,c2,c3,_⟩:=Yo ζ aj;obtain⟨ak,U,Y⟩:=aa c1;simp only at U Y;refine⟨⟨by simp only;omega,G,ag,af,Wz ab,⟨ah.1,by have:=ah.2;show num (tkB r.2.1 ((2:Nat):Int))<=65535;omega⟩,jL ((O.drop _).drop _) _,p2⟩,⟨by simp only;omega,by simp only;omega,by simp only;omega⟩, ?_,G.1,G.2⟩;rw[yq];refine⟨by simp only;omega,by simp only;omega,λc=> ?_,by simp only;omega, ?_⟩
     ·simp only[decide_eq_false_iff_not] at c;exact absurd hx c
     ·unfold ww;simp only[hx,decide_true,if_true];omega
    ·have e:yj (fH b) (b.drop 12,0)=(((j9 (fH b%16).toNat (b.drop 12,0)).1,0,[]),(j9 (fH b%16).toNat (b.drop 12,0)).2):=by
      unfold yj;rw[if_neg hx]
     rw[e] at d H p2 N ⊢;obtain⟨O,ab⟩:=us (fH b%16).toNat (s:=(b.drop 12,0)) J;have aq:=gN (fH b%16).toNat (b.drop 12,0);have aa:=λh=>Yw (fH b%16).toNat (s:=(b.drop 12,0)) h
     generalize j9 (fH b%16).toNat (b.drop 12,0)=r at *;simp only at d H p2 ⊢;obtain⟨ak,U,Y⟩:=aa d;simp only at U Y;refine⟨⟨by simp only;omega,G,ag,af,Wz ab,(⟨ζ,ζ⟩:U16 0),xh,p2⟩,⟨by simp only;omega,η,by simp only;omega⟩, ?_,G.1,G.2⟩;rw[yq];refine⟨by simp only;omega,by simp only;omega,λc=>⟨rfl,rfl⟩,η, ?_⟩;unfold ww;simp only[hx,decide_false,Bool.false_eq_true,if_false];omega
section
variable {P P':Int->Int->Prop} {s s':RmS}
theorem ZM (id:Int) (G:0<=id) (k:Int×Int): ∀(L:List Int) (b:Bk),(∀x∈L,0<=x/\x<6)->(∀x,qh b (x,id)=none∨qh b (x,id)=some 0)->qh (Ji b L id) k=if k.2=id/\k.1∈L then some 0 else qh b k
 | [],b,_,_=>by simp[Ji]
 | x::L,b,hL,hb=>by
  have d: ∀k,qh (vT b (x,id)).1 k=if k=(x,id) then some 0 else qh b k:=by
   intro k;unfold vT;rw[if_pos ⟨(hL x List.mem_cons_self).1,(hL x List.mem_cons_self).2,G⟩];rcases hb x with h | h
   ·rw[h];simp only[Option.isSome_none,Bool.false_eq_true,if_false];rw[qF]
   ·rw[h];simp only[Option.isSome_some,if_true];split
    ·rename_i e;rw[e,h]
    ·rfl
  have H:=ZM id G k L (vT b (x,id)).1 (λy J=>hL y (List.mem_cons_of_mem _ J)) (λy=>by
   rw[d];split
   ·exact Or.inr rfl
   ·exact hb y)
  unfold Ji at H ⊢;rw[List.foldl_cons,H,d];obtain⟨I,N⟩:=k;by_cases e:N=id<;>by_cases e2:I=x<;>by_cases e3:I∈L<;>simp[e,e2,e3]
  all_goals (simp_all)
theorem Pa (b:Jb) (n d x:Int):((jP b n d x).2=0->(thJ (jP b n d x).1.holds).Perm (x::thJ b.holds))/\((jP b n d x).2≠0->(jP b n d x).1=b):=by
 unfold jP;split
 ·exact⟨λe=>by simp at e,λ_=>rfl⟩
 ·split
  ·exact⟨λe=>by simp at e,λ_=>rfl⟩
  ·split
   ·exact⟨λe=>by simp at e,λ_=>rfl⟩
   ·refine⟨λ_=> ?_,λe=>absurd rfl e⟩;simp only;unfold ue thJ;rw[List.map_append,List.map_cons];refine(List.perm_middle).trans (List.Perm.cons _ ?_);rw[<-List.map_append,List.take_append_drop]
theorem Pb (b:Jb) (n d x:Int):(yY (jP b n d x).2=0↔(jP b n d x).2=0)/\0<=yY (jP b n d x).2/\yY (jP b n d x).2<=8:=by
 unfold jP
 repeat' split
 all_goals (simp[yY])
def DU (s:RmS):Prop:= ∀x sb,qh s.tab.u x=some sb->sb.2.1=true-> ∃l,qh s.lanes x=some l/\l.gone=false/\l.wanted=true
theorem mem_prR {d:Sb->Bool} {u:List (Int×Sb)} {x:Int}:x∈prR d u↔x∈subIds/\ ∃sb,qh u x=some sb/\d sb=true:=by
 unfold prR;rw[List.mem_filter];refine and_congr Iff.rfl ?_;cases qh u x with
 | none=>simp
 | some sb=>simp
theorem subIds_iff {x:Int}:x∈subIds↔0<=x/\x<6:=by
 unfold subIds;simp only[List.mem_cons,List.not_mem_nil,or_false];omega
theorem qR.accept (h:OwO s) (ai:DU s) (o:Og) (p:Pk):OwO (s.accept o p):=by
 unfold RmS.accept;cases ht:qh s.strs o with
 | none=>exact h
 | some t=>
  simp only;have ag: ∀x,qh s.book (x,(s.pks.length:Int))=none:=λx=>by
   cases O:qh s.book (x,(s.pks.length:Int)) with
   | none=>rfl
   | some v=>have:=(h.bel x _ v O).2;omega
  have ah: ∀x∈prR (j8 o.1) s.tab.u,0<=x/\x<6:=λx d=>subIds_iff.1 (mem_prR.1 d).1
  have J:=λk=>ZM (s.pks.length:Int) τ k _ s.book ah (λx=>Or.inl (ag x))
  have ac:qR (λ_ i=>i=(s.pks.length:Int)) {s with pks:=s.pks++[⟨o,yV t p.sq,p⟩],book:=Ji s.book (prR (j8 o.1) s.tab.u) s.pks.length}:=by
   refine⟨h.org,h.nd,h.dis,λaa u ak i hi=> ?_,h.sub,λx l U i hi=> ?_,λx i d=> ?_,λx i v N=> ?_⟩
   ·have:=h.few aa u ak i hi;simp only[List.length_append,List.length_cons,List.length_nil];omega
   ·obtain⟨a,b,_⟩:=h.owd x l U i hi;have ar:=(h.bel x i 0 a).2;refine⟨?_,b,λe=>by omega⟩;simp only;rw[J,if_neg (λc=>by have:=c.1;simp only at this;omega)];exact a
   ·simp only at d ⊢;rw[J] at d;split at d
    ·rename_i H;obtain⟨ae,af⟩:=H;simp only at ae af;obtain⟨ao,al,Y⟩:=(mem_prR.1 af).2;unfold j8 at Y;rw[Bool.and_eq_true] at Y;obtain⟨l,a,b,c⟩:=ai x ao al Y.1;exact⟨l,a,b,c,Or.inr (Or.inr ae)⟩
    ·obtain⟨l,a,b,c,G⟩:=h.src x i d;exact⟨l,a,b,c,G.elim Or.inl λG=>G.elim (λG=>Or.inr (Or.inl G)) False.elim⟩
   ·simp only at N ⊢;rw[J] at N;simp only[List.length_append,List.length_cons,List.length_nil];split at N
    ·rename_i H;have:=H.1;simp only at this;omega
    ·have:=h.bel x i v N;omega
  have aj: ¬xM s.strs (s.pks.length:Int):=λ⟨aa,u,a,b⟩=>by have:=(h.few aa u a _ b).2;omega
  have ad: ∀x l,qh s.lanes x=some l->(s.pks.length:Int)∉xI l:=λx l U hi=>by
   have:=(h.bel x _ 0 (h.owd x l U _ hi).1).2;omega
  obtain⟨am,an⟩:=Pa t.buf (yV t p.sq) s.clock s.pks.length;obtain⟨ab,ap,aq⟩:=Pb t.buf (yV t p.sq) s.clock s.pks.length;by_cases hf:yY (jP t.buf (yV t p.sq) s.clock s.pks.length).2=0
  ·rw[if_pos hf];exact((ac.grow (t':=Ye t p s.clock s.pks.length) ht (s.pks.length:Int) (am (ab.1 hf)) (by simp only[List.length_append,List.length_cons,List.length_nil];omega) aj ad).fin (λy i I _=>I.2 I.1)).same rfl rfl rfl rfl
  ·rw[if_neg hf];have O:(Ye t p s.clock s.pks.length).buf.holds=t.buf.holds:=by
    unfold Ye;simp only;rw[an (λe=>hf (ab.2 e))]
   refine((((ac.keep (t':=Ye t p s.clock s.pks.length) ht O).settled (prR (j8 o.1) s.tab.u) (s.pks.length:Int) (yY (jP t.buf (yV t p.sq) s.clock s.pks.length).2) τ (λx d=> ?_) ad)).fin (λy i I _=>I.2 I.1)).same rfl rfl rfl rfl;simp only at d;rw[J] at d;split at d
   ·rename_i H;exact H.2
   ·rw[ag x] at d;cases d
theorem qR.tell1 (h:qR P s) (x:Int):qR P (s.tell1 x):=by
 unfold RmS.tell1;cases qh s.tab.u x with
 | none=>exact h
 | some sb=>
  simp only;split
  ·cases qh s.lanes x with
   | none=>exact h
   | some l=>
    simp only;split
    ·cases ht:qh s.strs (sb.2.2,l.cur) with
     | none=>exact h
     | some t=>exact h.keep ht rfl
    ·exact h
  ·exact h
theorem kS {α:Type} {Q:RmS->Prop} {f:RmS->α->RmS} (d: ∀s x,Q s->Q (f s x)): ∀(L:List α) (s:RmS),Q s->Q (L.foldl f s)
 | [],_,h=>h
 | x::L,s,h=>kS d L (f s x) (d s x h)
theorem qR.tell (h:qR P s) (b:List Int):qR P (s.tell b):=by
 unfold RmS.tell;split
 ·refine kS (λs x h=> ?_) _ _ (h.same rfl rfl rfl rfl);unfold RmS.tellS;exact kS (Q:=qR P) (λs x h=>qR.tell1 h x) _ _ h
 ·exact h.same rfl rfl rfl rfl
theorem qR.read (h:OwO s) (G:DU s):OwO s.read:=by
 unfold RmS.read;cases s.queue with
 | nil=>exact h
 | cons b q=>
  simp only;have d:OwO {s with queue:=q}:=qR.same h rfl rfl rfl rfl;split
  ·exact qR.tell d b
  ·unfold RmS.media;split
   ·cases qh s.tab.o (jl b).1.sc with
    | none=>exact qR.same d rfl rfl rfl rfl
    | some o=>exact qR.accept d G o _
   ·exact qR.same d rfl rfl rfl rfl
theorem qR.tick (h:qR P s):qR P s.tick.1:=by
 unfold RmS.tick;split
 ·exact h
 ·refine kS (λs o h=> ?_) _ _ (h.same rfl rfl rfl rfl);unfold RmS.tick1;cases ht:qh s.strs o with
  | none=>exact h
  | some t=>
   simp only;split
   ·exact(h.keep (t':={t with asks:=(vU s.cfg.space s.cfg.retry t.asks (s.wants o) s.clock).1}) ht rfl).same rfl rfl rfl rfl
   ·exact h.keep ht rfl
theorem qR.publish (h:qR P s) (p:Int) (N:0<=p/\p<3) (d: ∀k,qh s.strs (p,k)=none):qR P {s with strs:=qx (qx (qx s.strs (p,0) (uc s.cfg)) (p,1) (uc s.cfg)) (p,2) (uc s.cfg)}:=by
 have G: ∀k,0<=k/\k<3->(p,k)∈orgs:=λk J=>by
  have H:p=0∨p=1∨p=2:=by omega
  have I:k=0∨k=1∨k=2:=by omega
  rcases H with rfl | rfl | rfl<;>rcases I with rfl | rfl | rfl<;>decide
 refine(((h.strNew (G 0 ζ) (d 0) (t':=uc s.cfg) rfl).strNew (G 1 ζ) ?_ (t':=uc s.cfg) rfl).strNew (G 2 ζ) ?_ (t':=uc s.cfg) rfl).same rfl rfl rfl rfl
 ·show qh (qx s.strs (p,0) _) _=none;rw[vF _ _ (λe=>by have:=congrArg Prod.snd e;simp at this)];exact d 1
 ·show qh (qx (qx s.strs (p,0) _) (p,1) _) _=none;rw[vF _ _ (λe=>by have:=congrArg Prod.snd e;simp at this),vF _ _ (λe=>by have:=congrArg Prod.snd e;simp at this)];exact d 2
theorem qR.join (h:qR P s) {x:Int} (J:x∈subIds) (G:qh s.lanes x=none) {l:LnS} (H:1<=l.room) (hi:xI l=[]):qR P {s with lanes:=qx s.lanes x l}:=
 h.endL x (L:=qx s.lanes x l) (b:=s.book) (λy N=>vF _ _ N) (λm d=>by
  rw[xD] at d;injection d with e
  subst e;exact⟨J,H,hi⟩) (λ_ _ _=>rfl) (λi e=>by
  obtain⟨O,a,_⟩:=h.src x i e;rw[G] at a
  cases a) (λi v I=>⟨v,I⟩)
theorem qR.leave (h:qR P s) (x:Int):qR P {s with lanes:=Yh s.lanes x,book:=vM s.book x 7}:=
 h.endL x (L:=Yh s.lanes x) (b:=vM s.book x 7) (λy d=>by rw[uR,if_neg d]) (λm G=>by
  rw[uR,if_pos rfl] at G
  cases G) (λy i d=>XH _ i 7 d) (λi=>VR _ x i ζ) (λi v H=>VQ _ x i 7 v H)
theorem Xv (l:LnS) (k:Int):xI (jO l k).1=xI l/\(jO l k).1.room=l.room/\(jO l k).1.gone=l.gone/\(l.wanted=true->(jO l k).1.wanted=true):=by
 unfold jO;split
 ·exact⟨rfl,rfl,rfl,λe=>e⟩
 ·split
  ·exact⟨rfl,rfl,rfl,λe=>e⟩
  ·exact⟨rfl,rfl,rfl,λ_=>rfl⟩
theorem qR.wantL (h:qR P s) {x:Int} {l:LnS} (J:qh s.lanes x=some l) (k:Int):qR P {s with lanes:=qx s.lanes x (jO l k).1}:=by
 obtain⟨d,G,H,I⟩:=Xv l k;exact h.lane J [] 1 ζ (by rw[d,List.append_nil]) G H I
end
theorem vJ {K V:Type} [DecidableEq K] {k:K} (v:V): ∀{m:List (K×V)},(qh m k).isSome=true->(qx m k v).length=m.length
 | [],h=>by simp[qh] at h
 | (a,b)::l,h=>by
  unfold qx;unfold qh at h;by_cases e:k=a
  ·rw[if_pos e];rfl
  ·rw[if_neg e] at h ⊢;rw[List.length_cons,vJ v h,List.length_cons]
theorem Qz {K V:Type} [DecidableEq K] (k:K) (v:V): ∀(m:List (K×V)),(qx m k v).length<=m.length+1
 | []=>by simp[qx]
 | (a,b)::l=>by
  unfold qx;split
  ·simp
  ·have:=Qz k v l;simp only[List.length_cons];omega
theorem xm {K V α:Type} [DecidableEq K] (g:V->α) {m:List (K×V)} {k:K} {u v:V} (h:qh m k=some u) (e:g v=g u) (x:K):(qh (qx m k v) x).map g=(qh m x).map g:=by
 rw[qF];by_cases c:x=k
 ·rw[if_pos c,c,h];exact congrArg some e
 ·rw[if_neg c]
theorem zq (b:Bk) (x id f:Int):(jp b x id f).length=b.length:=by
 unfold jp zi
 repeat' split
 all_goals first | rfl | exact vJ _ (by assumption)
theorem gW (x f:Int): ∀(E:List Int) (b:Bk),(E.foldl (λb id=>jp b x id f) b).length=b.length
 | [],_=>rfl
 | id::E,b=>by rw[List.foldl_cons,gW x f E,zq]
theorem vQ (id f:Int): ∀(E:List Int) (b:Bk),(xG b E id f).length=b.length
 | [],_=>rfl
 | x::E,b=>by
  have:=vQ id f E (jp b x id f);unfold xG at this ⊢;rw[List.foldl_cons,this,zq]
structure Loc (s s':RmS):Prop where
 cfg:s'.cfg=s.cfg
 closed:s'.closed=s.closed
 ret:s'.ret=s.ret
 clock:s'.clock=s.clock
 queue:s'.queue=s.queue
 tab:s'.tab=s.tab
 pks:s'.pks=s.pks
 reqs:s'.reqs=s.reqs
 cnt:s'.cnt=s.cnt
 book:s'.book.length=s.book.length
 lanes: ∀x,(qh s'.lanes x).map (λl=>(l.gone,l.wanted,l.W))=(qh s.lanes x).map λl=>(l.gone,l.wanted,l.W)
 strs: ∀o,(qh s'.strs o).map (λt=>(t.any,t.great,t.asks))=(qh s.strs o).map λt=>(t.any,t.great,t.asks)
theorem Loc.refl (s:RmS):Loc s s:=⟨rfl,rfl,rfl,rfl,rfl,rfl,rfl,rfl,rfl,rfl,λ_=>rfl,λ_=>rfl⟩
theorem Loc.trans {s s' s'':RmS} (h:Loc s s') (k:Loc s' s''):Loc s s'':=
 ⟨k.cfg.trans h.cfg,k.closed.trans h.closed,k.ret.trans h.ret,k.clock.trans h.clock,k.queue.trans h.queue,k.tab.trans h.tab,k.pks.trans h.pks,k.reqs.trans h.reqs,k.cnt.trans h.cnt,k.book.trans h.book,λx=>(k.lanes x).trans (h.lanes x),λo=>(k.strs o).trans (h.strs o)⟩
theorem za {α:Type} {f:RmS->α->RmS} (d: ∀s x,Loc s (f s x)): ∀(L:List α) (s:RmS),Loc s (L.foldl f s)
 | [],s=>Loc.refl s
 | x::L,s=>(d s x).trans (za d L (f s x))
theorem Gz (s:RmS) (x:Int):Loc s (s.tell1 x):=by
 unfold RmS.tell1;cases qh s.tab.u x with
 | none=>exact Loc.refl s
 | some sb=>
  simp only;split
  ·cases qh s.lanes x with
   | none=>exact Loc.refl s
   | some l=>
    simp only;split
    ·cases ht:qh s.strs (sb.2.2,l.cur) with
     | none=>exact Loc.refl s
     | some t=>exact⟨rfl,rfl,rfl,rfl,rfl,rfl,rfl,rfl,rfl,rfl,λ_=>rfl,xm _ ht rfl⟩
    ·exact Loc.refl s
  ·exact Loc.refl s
theorem ko (L:List Int) (s:RmS):Loc s (L.foldl RmS.tellS s):=za (λs _=>za Gz _ s) L s
theorem ZE (l:LnS) (d:ItS):((xp l d).1.gone,(xp l d).1.wanted,(xp l d).1.W)=(l.gone,l.wanted,l.W):=by
 unfold xp yX
 repeat' split
 all_goals rfl
theorem Bj (d:ItS) (s:RmS) (x:Int):Loc s (s.put1 d x):=by
 unfold RmS.put1;split
 ·cases hl:qh s.lanes x with
  | none=>exact Loc.refl s
  | some l=>
   simp only;split
   ·exact⟨rfl,rfl,rfl,rfl,rfl,rfl,rfl,rfl,rfl,zq _ _ _ _,xm _ hl (ZE l d),λ_=>rfl⟩
   ·exact⟨rfl,rfl,rfl,rfl,rfl,rfl,rfl,rfl,rfl,rfl,xm _ hl (ZE l d),λ_=>rfl⟩
 ·exact Loc.refl s
theorem kr (s:RmS):Loc s s.order:=by
 unfold RmS.order;cases s.ready with
 | none=>exact Loc.refl s
 | some o=>
  simp only;cases ht:qh s.strs o with
  | none=>exact Loc.refl s
  | some t=>
   have h:Loc s {s with strs:=qx s.strs o {t with buf:=(yD t.buf s.clock).1}}:=⟨rfl,rfl,rfl,rfl,rfl,rfl,rfl,rfl,rfl,rfl,λ_=>rfl,xm _ ht rfl⟩;exact h.trans (za (Bj _) _ _)
theorem vu (s:RmS) (x:Int):Loc s (s.choose x):=by
 unfold RmS.choose;cases hl:qh s.lanes x with
 | none=>exact Loc.refl s
 | some l=>
  refine⟨rfl,rfl,rfl,rfl,rfl,rfl,rfl,rfl,rfl, ?_,xm _ hl ?_,λ_=>rfl⟩
  ·simp only;split
   ·exact zq _ _ _ _
   ·rfl
  ·rcases XJ l with ⟨_,e⟩ | ⟨_,x,A,_,_,e⟩<;>rw[e]
theorem yA (s:RmS) (x:Int):Loc s (s.rewrite x):=by
 unfold RmS.rewrite;cases hl:qh s.lanes x with
 | none=>exact Loc.refl s
 | some l=>
  refine⟨rfl,rfl,rfl,rfl,rfl,rfl,rfl,rfl,rfl, ?_,xm _ hl ?_,λ_=>rfl⟩
  ·simp only;split
   ·exact zq _ _ _ _
   ·rfl
  ·rcases NO l with ⟨_,e⟩ | ⟨x,f,B,_,e⟩<;>rw[e]
theorem vt (s:RmS) (w:Og):Loc s (s.drainL w):=by
 unfold RmS.drainL;cases hl:qh s.lanes w.2 with
 | none=>exact Loc.refl s
 | some l=>exact⟨rfl,rfl,rfl,rfl,rfl,rfl,rfl,rfl,rfl,gW _ _ _ _,xm _ hl rfl,λ_=>rfl⟩
theorem vn (s:RmS) (o:Og):Loc s (s.drainO o):=by
 unfold RmS.drainO;cases ht:qh s.strs o with
 | none=>exact Loc.refl s
 | some t=>
  have h:Loc s {s with strs:=qx s.strs o {t with buf:=vP t.buf}}:=⟨rfl,rfl,rfl,rfl,rfl,rfl,rfl,rfl,rfl,rfl,λ_=>rfl,xm _ ht rfl⟩;exact h.trans (za (f:=RmS.drain1) (λs i=>⟨rfl,rfl,rfl,rfl,rfl,rfl,rfl,rfl,rfl,(vQ i 8 subIds s.book:(xG s.book subIds i 8).length=s.book.length),λ_=>rfl,λ_=>rfl⟩) _ _)
theorem uu {α β:Type} {f:α->β} {a:Option α} {b:Option α} (h:a.map f=b.map f) {x:α} (d:a=some x): ∃y,b=some y/\f x=f y:=by
 rw[d] at h;cases b with
 | none=>cases h
 | some y=>exact⟨y,rfl,by injection h⟩
theorem yt {α β:Type} {f:α->β} {a:Option α} {b:Option α} (h:a.map f=b.map f):a.isSome=b.isSome:=by
 have:=congrArg Option.isSome h
 simpa using this
structure Gm (s:RmS):Prop where
 keys: ∀x,(qh s.tab.u x).isSome=true->0<=x/\x<6
 lane: ∀x,(qh s.tab.u x).isSome=(qh s.lanes x).isSome
 act:DU s
 pub: ∀x sb,qh s.tab.u x=some sb->sb.2.1=true->(qh s.tab.s (sb.2.2,0)).isSome=true
 str: ∀p n,jj n=true->(qh s.strs (p,n)).isSome=(qh s.tab.s (p,0)).isSome
 org: ∀x o,qh s.tab.o x=some o->(qh s.strs o).isSome=true
 src: ∀o v,qh s.tab.s o=some v->0<=v/\v<=4294967295
section
variable {s s':RmS}
theorem Gm.loc (h:Gm s) (d:s'.tab=s.tab) (I: ∀x,(qh s'.lanes x).map (λl=>(l.gone,l.wanted))=(qh s.lanes x).map λl=>(l.gone,l.wanted)) (J: ∀o,(qh s'.strs o).isSome=(qh s.strs o).isSome):Gm s':=by
 refine⟨by rw[d];exact h.keys,λx=>by rw[d,yt (I x)];exact h.lane x,λx U G N=> ?_,by rw[d];exact h.pub,λp n O=>by rw[d,J];exact h.str p n O,λx o H=>by rw[d] at H;rw[J];exact h.org x o H,by rw[d];exact h.src⟩;rw[d] at G;obtain⟨l,a,b,c⟩:=h.act x U G N;obtain⟨l',a',e⟩:=uu (I x).symm a;simp only[Prod.mk.injEq] at e;exact⟨l',a',by rw[<-e.1];exact b,by rw[<-e.2];exact c⟩
theorem Loc.tb (h:Loc s s') (k:Gm s):Gm s':=
 k.loc h.tab (λx=>by have:=congrArg (Option.map λp:Bool×Bool×List (Int×List Int)=>(p.1,p.2.1)) (h.lanes x);rw[Option.map_map,Option.map_map] at this;exact this) (λo=>yt (h.strs o))
structure JR (n:Nat) (s:RmS):Prop where
 cfg:xY s.cfg=true
 malf:0<=s.cnt.malf/\s.cnt.malf<=n
 told:0<=s.cnt.told/\s.cnt.told<=n
 strange:0<=s.cnt.strange/\s.cnt.strange<=n
 acc:s.cnt.acc=s.pks.length
 lost:0<=s.cnt.lost/\s.cnt.lost<=9* n
 pks:s.pks.length<=n
 clock:0<=s.clock/\s.clock<=n
 great: ∀o t,qh s.strs o=some t->t.any=true->65536<=t.great/\t.great<=65536* (n+2)
 asks: ∀o t,qh s.strs o=some t->0<=t.asks.tries/\t.asks.tries<=9* n/\0<=t.asks.last/\t.asks.last<=n
 queue: ∀b∈s.queue,Byt b/\b.length<=400
 fit:(s.queue.length:Int)<=s.cfg.room
 pkok: ∀a∈s.pks,uf a.pk/\uj a.pk/\jJ a.pk=true
 few:s.tab.u.length<=n
 wr: ∀x l,qh s.lanes x=some l->l.W.length<=n
 book:s.book.length<=6* n
 reqs:s.reqs.length<=9* n
theorem JR.up {n:Nat} (h:JR n s):JR (n+1) s:=by
 obtain⟨d,ac,ad,ae,O,af,ag,ah,U,G,H,I,J,Y,N,aa,ab⟩:=h;exact⟨d,τ,τ,τ,O,τ,τ,τ,λo t a b=>by have:=U o t a b;omega,λo t a=>by have:=G o t a;omega,H,I,J,τ,λx l a=>by have:=N x l a;omega,τ,τ⟩
theorem Loc.num (h:Loc s s') {n:Nat} (k:JR n s):JR n s':=by
 obtain⟨d,aa,ab,ac,ad,ae,af,ag,ah,G,H,I,J,N,O,U,Y⟩:=k;refine⟨by rw[h.cfg];exact d,by rw[h.cnt];exact aa,by rw[h.cnt];exact ab,by rw[h.cnt];exact ac,by rw[h.cnt,h.pks];exact ad,by rw[h.cnt];exact ae,by rw[h.pks];exact af,by rw[h.clock];exact ag,λo t a b=> ?_,λo t a=> ?_,by rw[h.queue];exact H,by rw[h.queue,h.cfg];exact I,by rw[h.pks];exact J,by rw[h.tab];exact N,λx l a=> ?_,by rw[h.book];exact U,by rw[h.reqs];exact Y⟩
 ·obtain⟨t',e,f⟩:=uu (h.strs o) a;simp only[Prod.mk.injEq] at f;rw[f.2.1];exact ah o t' e (by rw[<-f.1];exact b)
 ·obtain⟨t',e,f⟩:=uu (h.strs o) a;simp only[Prod.mk.injEq] at f;rw[f.2.2];exact G o t' e
 ·obtain⟨l',e,f⟩:=uu (h.lanes x) a;simp only[Prod.mk.injEq] at f;rw[f.2.2];exact O x l' e
end
end Go.Proofs.YtlmllmonabafjaaGreatDoor
