/- x -/
import Derived.Test.YtlmllmonabafjaaGreatDoorMg10
namespace Go.Proofs.YtlmllmonabafjaaGreatDoor
open Option renaming some->ϊ,none->ϋ
open Bool renaming true->ό,false->ύ
open Go.Value renaming bool->μ,slice->δ,pointer->π,agg->θ
open Go.IntKind renaming i64->ι,u8->υ,u16->φ,u32->ω,i32->χ,u64->ψ
set_option linter.all false
set_option maxHeartbeats 8000000
open Go.RowKit
set_option maxRecDepth 100000
open _root_.Go.Proofs.Tryz
variable {s s':RmS} {w w' w0:World} {l:LnS} {n R cap:Nat} {x d:Int} {T:Nat->Tg} {k:RmK} {vp vr v:Value} {F:List Nat} {α V K:Type} {f:RmS->α->RmS} {o:Og} {P P':Int->Int->Prop} {L:List (Int×LnS)} {t':zX} {a b:Option α} {t:TS}
section
variable (s:LnS)
def Vj (x:ItS):(jL s x).1=s/\(jL s x).2.2.2≠0/\(jL s x).2.2.1=ύ∨s.gone=ύ/\s.wanted=ό/\jD x.pk=ό/\je x.layer=ό/\(jL s x).2.2.2=0/\(jL s x).1={s with A:=if s.A.length<s.room then s.A++[x] else s.A.tail++[x]}/\(jL s x).2.1=(if s.A.length<s.room then 0 else (s.A.head?.map (·.id)).getD 0)/\(jL s x).2.2.1=decide (¬s.A.length<s.room):=by
 unfold jL;split
 ·exact ϐ ⟨rfl,η,rfl⟩
 ·rename_i d;have d:je x.layer=ό/\jD x.pk=ό:=by simpa using d
  split
  ·exact ϐ ⟨rfl,η,rfl⟩
  ·rename_i G;split
   ·exact ϐ ⟨rfl,η,rfl⟩
   ·rename_i H;refine ϓ ⟨by simpa using G,by simpa using H,d.2,d.1,rfl, ?_, ?_, ?_⟩
    all_goals (unfold vf;split<;>rename_i I<;>simp[I])
def xX:(zQ s 1=ύ/\qP s=(s,0,0,ύ))∨(zQ s 1=ό/\ ∃x A,s.A=x::A/\s.B.length≠s.room/\qP s=({s with A:=A,cur:=(xa s.cur s.tgt x.layer x.key).1,B:=if (xa s.cur s.tgt x.layer x.key).2.1=0 then s.B++[(x,(xa s.cur s.tgt x.layer x.key).2.2)] else s.B},x.id,(xa s.cur s.tgt x.layer x.key).2.1,ό)):=by
 cases hm:zQ s 1 with
 | false=>exact ϐ ⟨rfl,by unfold qP;rw[ϒ hm]⟩
 | true=>
  have d:(decide (0<s.A.length)&&decide (¬s.B.length=s.room))=ό:=hm;rw[Φ] at d;cases hA:s.A with
  | nil=>rw[hA] at d;simp at d
  | cons x A=>exact ϓ ⟨rfl,x,A,rfl,by simpa using d.2,by unfold qP;rw[ώ (by rw[hm];decide),hA]⟩
def zj:(s.B=[]/\qN s=(s,0,ύ,ύ))∨(∃x f B,s.B=(x,f)::B/\qN s=({s with B:=B,rw:=uC s.rw x.pk f,C:=if s.C.length<s.room then s.C++[(x.id,pkB (vX s.rw x.pk f))] else s.C.tail++[(x.id,pkB (vX s.rw x.pk f))]},(if s.C.length<s.room then 0 else (s.C.head?.map (·.1)).getD 0),decide (¬s.C.length<s.room),ό)):=by
 cases hB:s.B with
 | nil=>exact ϐ ⟨rfl,by unfold qN;rw[hB]⟩
 | cons y B=>
  obtain⟨x,f⟩:=y;refine ϓ ⟨x,f,B,rfl, ?_⟩;unfold qN vL;rw[hB];by_cases h:s.C.length<s.room<;>simp[h]
def zc (acc:Bool):(s.C=[]/\qJ s acc=(s,0,0,ύ))∨(∃o C,s.C=o::C/\((jk s acc).2.2=ύ/\qJ s acc=({s with C:=if acc then C else o::C,W:=if acc then s.W++[o] else s.W,row:=(jk s acc).1,gone:=(jk s acc).2.1},o.1,(if acc then 1 else 0),ό)∨
  acc=ύ/\s.gone=ύ/\(jk s acc).2.1=ό/\qJ s acc=({s with A:=[],B:=[],C:=[],row:=(jk s acc).1,gone:=(jk s acc).2.1},o.1,7,ό))):=by
 cases hC:s.C with
 | nil=>exact ϐ ⟨rfl,by unfold qJ;rw[hC]⟩
 | cons o C=>
  refine ϓ ⟨o,C,rfl, ?_⟩;cases hb:(jk s acc).2.2 with
  | false=>exact ϐ ⟨rfl,by unfold qJ;rw[hC];simp[hb]⟩
  | true=>
   have d:s.gone=ύ:=by
    cases d:s.gone with
    | false=>rfl
    | true=>unfold jk at hb;rw[ϒ d] at hb;simp at hb
   have H:acc=ύ:=by
    cases acc with
    | false=>rfl
    | true=>unfold jk at hb;rw[ώ (by rw[d];decide),ϒ rfl] at hb;simp at hb
   subst H;have G:(jk s ύ).2.1=(jk s ύ).2.2:=by unfold jk;rw[ώ (by rw[d];decide)];rfl
   exact ϓ ⟨rfl,d,by rw[G];exact hb,by unfold qJ;rw[hC];simp[hb]⟩
def CF (n:Int):(jA s n).1=s∨s.gone=ύ/\(jA s n).1={s with wanted:=ό,cur:=if s.wanted then s.cur else -1,tgt:=n}:=by
 unfold jA;split
 ·exact ϐ rfl
 ·split
  ·exact ϐ rfl
  ·rename_i h;exact ϓ ⟨by simpa using h,rfl⟩
end
def xW (s:LnS):List Int:=s.A.map (·.id)++s.B.map (·.1.id)++s.C.map (·.1)
def Ju (m:Bk) (sub f:Int) (k:Int×Int):qm (vW m sub f) k=(qm m k).map λv=>if k.1=sub/\v=0 then f else v:=by
 unfold vW
 induction m with
 | nil=>simp[qm]
 | cons p l ih=>
  obtain⟨⟨a,c⟩,g⟩:=p;simp only[ϡ];by_cases h:a=sub/\g=0
  ·rw[ϒ h];unfold qm;by_cases e:k=(a,c)
   ·subst e;simp[h]
   ·simp[e,ih]
  ·rw[ώ h];unfold qm;by_cases e:k=(a,c)
   ·subst e;simp[h]
   ·simp[e,ih]
def zm (strs:List (Og×zX)) (id:Int):Prop:= ∃o t,qm strs o=ϊ t/\id∈thJ t.buf.holds
structure qW (P:Int->Int->Prop) (s:RmS):Prop where
 org: ∀o t,qm s.strs o=ϊ t->o∈orgs
 nd: ∀o t,qm s.strs o=ϊ t->(thJ t.buf.holds).Nodup
 dis: ∀o t o' t',qm s.strs o=ϊ t->qm s.strs o'=ϊ t'-> ∀id,id∈thJ t.buf.holds->id∈thJ t'.buf.holds->o=o'
 few: ∀o t,qm s.strs o=ϊ t-> ∀id∈thJ t.buf.holds,0<=id/\id<(s.pks.length:Int)
 sub: ∀x l,qm s.lanes x=ϊ l->x∈subIds/\1<=l.room/\(xW l).Nodup
 owd: ∀x l,qm s.lanes x=ϊ l-> ∀id∈xW l,qm s.book (x,id)=ϊ 0/\ ¬zm s.strs id/\ ¬P x id
 src: ∀x id,qm s.book (x,id)=ϊ 0-> ∃l,qm s.lanes x=ϊ l/\l.gone=ύ/\l.wanted=ό/\(id∈xW l∨zm s.strs id∨P x id)
 bel: ∀x id v,qm s.book (x,id)=ϊ v->0<=id/\id<(s.pks.length:Int)
def OwO (s:RmS):Prop:=qW (λ_ _=>False) s
def jM (b:Bk) (x id f:Int) (d:1<=f/\f<=8) (k:Int×Int):qm (jn b x id f) k=if k=(x,id)/\qm b k=ϊ 0 then ϊ f else qm b k:=by
 unfold jn;by_cases h:qm b (x,id)=ϊ 0
 ·rw[ϒ h];unfold zF;rw[ϒ d,ϒ (by rw[h];rfl),ϒ (by rw[h];rfl),qE];by_cases e:k=(x,id)
  ·rw[ϒ e,ϒ ⟨e,by rw[e];exact h⟩]
  ·rw[ώ e,ώ (λc=>e c.1)]
 ·rw[ώ h];by_cases e:k=(x,id)
  ·rw[ώ (λc=>h (by rw[<-e];exact c.2))]
  ·rw[ώ (λc=>e c.1)]
def vu (x f:Int) (H:1<=f/\f<=8) (k:Int×Int): ∀(E:List Int) (b:Bk),qm (E.foldl (λb id=>jn b x id f) b) k=if (k.1=x/\k.2∈E)/\qm b k=ϊ 0 then ϊ f else qm b k
 | [],b=>by simp
 | id::E,b=>by
  rw[B6,vu x f H k E,jM b x id f H];obtain⟨G,d⟩:=k;have I:f≠0:=by omega
  by_cases h0:qm b (G,d)=ϊ 0
  ·by_cases e:G=x<;>by_cases e2:d=id<;>by_cases e3:d∈E<;>simp[h0,e,e2,e3]
   all_goals (simp_all)
  ·by_cases e:G=x<;>by_cases e2:d=id<;>by_cases e3:d∈E<;>simp[h0]
def yh (id f:Int) (H:1<=f/\f<=8) (k:Int×Int): ∀(E:List Int) (b:Bk),qm (xV b E id f) k=if (k.2=id/\k.1∈E)/\qm b k=ϊ 0 then ϊ f else qm b k
 | [],b=>by simp[xV]
 | x::E,b=>by
  have I:=yh id f H k E (jn b x id f);unfold xV at I ⊢;rw[B6,I,jM b x id f H];obtain⟨d,G⟩:=k;have J:f≠0:=by omega
  by_cases h0:qm b (d,G)=ϊ 0
  ·by_cases e:G=id<;>by_cases e2:d=x<;>by_cases e3:d∈E<;>simp[h0,e,e2,e3]
   all_goals (simp_all)
  ·by_cases e:G=id<;>by_cases e2:d=x<;>by_cases e3:d∈E<;>simp[h0]
def qW.iff (h:qW P s) (e: ∀x i,P x i↔P' x i):qW P' s:=
  ⟨h.org,h.nd,h.dis,h.few,h.sub,λx l J i hi=>by obtain⟨d,G,H⟩:=h.owd x l J i hi;exact⟨d,G,λc=>H ((e x i).2 c)⟩,
   λx i hi=>by obtain⟨l,d,G,H,I⟩:=h.src x i hi;exact⟨l,d,G,H,by rw[<-e];exact I⟩,h.bel⟩
def qW.same (h:qW P s) (Y:s'.strs=s.strs) (aa:s'.lanes=s.lanes) (ab:s'.book=s.book) (ac:s'.pks=s.pks):qW P s':=by
 obtain⟨J,N,O,H,U,d,G,I⟩:=h;rw[<-Y] at J N O H d G;rw[<-aa] at U d G;rw[<-ab] at d G I;rw[<-ac] at H I;exact⟨J,N,O,H,U,d,G,I⟩
def qW.laneN (h:qW P s) {l':LnS} (N:qm s.lanes x=ϊ l) (J E:List Int) (f:Int) (ab:1<=f/\f<=8) (ad:(xW l'++E).Perm (J++xW l)) (ae: ∀i∈J,P x i/\ ¬zm s.strs i/\qm s.book (x,i)=ϊ 0) (U:J.Nodup) (al:l'.room=l.room) (aj:l'.gone=l.gone) (am:l.wanted=ό->l'.wanted=ό):
  qW (λy i=>P y i/\ ¬(y=x/\i∈J)) {s with lanes:=qB s.lanes x l',book:=E.foldl (λb id=>jn b x id f) s.book}:=by
 have ai:f≠0:=by omega
 have ak:(xW l'++E).Nodup:=by
  rw[ad.nodup_iff,I2];refine⟨U,(h.sub x l N).2.2,λa ag b ah e=> ?_⟩;subst e;exact(h.owd x l N a ah).2.2 (ae a ag).1
 have U:=I2.1 ak;refine⟨h.org,h.nd,h.dis,h.few,λy m G=> ?_,λy m G id ac=> ?_,λy id O=> ?_,λy id v Y=> ?_⟩
 ·rw[qE] at G;split at G
  ·rename_i e;injection G with e2
   subst e e2;exact⟨(h.sub _ l N).1,by rw[al];exact(h.sub _ l N).2.1,U.1⟩
  ·exact h.sub y m G
 ·simp only at G ⊢;rw[qE] at G;rw[vu x f ab];split at G
  ·rename_i e;injection G with e2
   subst e e2;have af: ¬id∈E:=λc=>U.2.2 id ac id c rfl
   rw[ώ (λc=>af c.1.2)];rcases ϥ.1 (ad.subset (ο _ ac)) with hi | hi
   ·obtain⟨I,H,d⟩:=ae id hi;exact⟨d,H,λc=>c.2 ⟨rfl,hi⟩⟩
   ·obtain⟨I,H,d⟩:=h.owd y l N id hi;exact⟨I,H,λc=>d c.1⟩
  ·rename_i e;obtain⟨I,H,d⟩:=h.owd y m G id ac;exact⟨by rw[ώ (λc=>e c.1.1)];exact I,H,λc=>d c.1⟩
 ·simp only at O ⊢;rw[vu x f ab] at O;split at O
  ·injection O with e
   exact ϧ e ai
  ·rename_i aa;obtain⟨m,G,I,H,d⟩:=h.src y id O;rw[qE];by_cases e:y=x
   ·subst e;rw[N] at G;injection G with e2
    subst e2;refine⟨l',by rw[ϒ rfl],by rw[aj];exact I,am H, ?_⟩;have key:id∈J++xW l->id∈xW l':=λd=>by
     rcases ϥ.1 (ad.symm.subset d) with h4 | h4
     ·exact h4
     ·exact ϧ ⟨⟨rfl,h4⟩,O⟩ aa
    rcases d with d | d | d
    ·exact ϐ (key (ϔ _ d))
    ·exact ϓ (ϐ d)
    ·by_cases hi:id∈J
     ·exact ϐ (key (ο _ hi))
     ·exact ϓ (ϓ ⟨d,λc=>hi c.2⟩)
   ·refine⟨m,by rw[ώ e];exact G,I,H, ?_⟩;rcases d with d | d | d
    ·exact ϐ d
    ·exact ϓ (ϐ d)
    ·exact ϓ (ϓ ⟨d,λc=>e c.1⟩)
 ·simp only at Y;rw[vu x f ab] at Y;split at Y
  ·rename_i aa;exact h.bel y id 0 aa.2
  ·exact h.bel y id v Y
def qW.lane (h:qW P s) {l':LnS} (H:qm s.lanes x=ϊ l) (E:List Int) (f:Int) (d:1<=f/\f<=8) (I:(xW l'++E).Perm (xW l)) (J:l'.room=l.room) (G:l'.gone=l.gone) (N:l.wanted=ό->l'.wanted=ό):
  qW P {s with lanes:=qB s.lanes x l',book:=E.foldl (λb id=>jn b x id f) s.book}:=
 (h.laneN H [] E f d I (λi hi=>by simp at hi) Q3 J G N).iff λy i=>by simp
def qW.endL (h:qW P s) (x:Int) {b:Bk} (J: ∀y,y≠x->qm L y=qm s.lanes y) (U: ∀m,qm L x=ϊ m->x∈subIds/\1<=m.room/\xW m=[])
  (I: ∀y i,y≠x->qm b (y,i)=qm s.book (y,i)) (Y: ∀i,qm b (x,i)≠ϊ 0) (aa: ∀i v,qm b (x,i)=ϊ v-> ∃v',qm s.book (x,i)=ϊ v'):qW P {s with lanes:=L,book:=b}:=by
 refine⟨h.org,h.nd,h.dis,h.few,λy m d=> ?_,λy m d i hi=> ?_,λy i H=> ?_,λy i v G=> ?_⟩
 ·by_cases e:y=x
  ·subst e;obtain⟨N,O,a3⟩:=U m d;exact⟨N,O,by rw[a3];exact Q3⟩
  ·exact h.sub y m (by rw[<-J y e];exact d)
 ·by_cases e:y=x
  ·subst e;obtain⟨N,O,a3⟩:=U m d;rw[a3] at hi;simp at hi
  ·simp only at d ⊢;rw[I y i e];exact h.owd y m (by rw[<-J y e];exact d) i hi
 ·by_cases e:y=x
  ·subst e;exact ϧ H (Y i)
  ·simp only at H ⊢;rw[I y i e] at H;rw[J y e];exact h.src y i H
 ·by_cases e:y=x
  ·subst e;obtain⟨v',ab⟩:=aa i v G;exact h.bel y i v' ab
  ·simp only at G;rw[I y i e] at G;exact h.bel y i v G
def held_put {strs:List (Og×zX)} {i:Int}:zm (qB strs o t') i↔i∈thJ t'.buf.holds∨ ∃G t,G≠o/\qm strs G=ϊ t/\i∈thJ t.buf.holds:=by
 constructor
 ·rintro⟨G,t,d,H⟩;rw[qE] at d;by_cases e:G=o
  ·rw[ϒ e] at d;injection d with e1
   subst e1;exact ϐ H
  ·rw[ώ e] at d;exact ϓ ⟨G,t,e,d,H⟩
 ·rintro(h | ⟨G,t,e,d,H⟩)
  ·exact⟨o,t',by rw[qE,ϒ rfl],h⟩
  ·exact⟨G,t,by rw[qE,ώ e];exact d,H⟩
def qW.shrink (h:qW P s) {t:zX} (I:qm s.strs o=ϊ t) (E:List Int) (N:(thJ t'.buf.holds++E).Perm (thJ t.buf.holds)):
  qW (λx i=>P x i∨i∈E) {s with strs:=qB s.strs o t'}/\(∀i∈E,¬zm (qB s.strs o t') i)/\ ∀i,zm (qB s.strs o t') i->zm s.strs i:=by
 have ak:=N.nodup_iff.2 (h.nd o t I);have U:=I2.1 ak;have ab: ∀i,zm (qB s.strs o t') i->zm s.strs i:=λi hi=>by
  rcases held_put.1 hi with J | ⟨G,u,_,O,h3⟩
  ·exact⟨o,t,I,N.subset (ο _ J)⟩
  ·exact⟨G,u,O,h3⟩
 have am: ∀i,zm s.strs i->zm (qB s.strs o t') i∨i∈E:=λi ⟨G,u,J,O⟩=>by
  by_cases e:G=o
  ·subst e;rw[I] at J;injection J with e1
   subst e1;rcases ϥ.1 (N.symm.subset O) with h3 | h3
   ·exact ϐ (held_put.2 (ϐ h3))
   ·exact ϓ h3
  ·exact ϐ (held_put.2 (ϓ ⟨G,u,e,J,O⟩))
 refine⟨⟨λG u d=> ?_,λG u d=> ?_,λan aq o2 ar Y aa i ah ai=> ?_,λG u d i hi=> ?_,h.sub,λx l aj i hi=> ?_,λx i al=> ?_,h.bel⟩,λi hi ag=> ?_,ab⟩
 ·rw[qE] at d;split at d
  ·rename_i e;rw[e];exact h.org o t I
  ·exact h.org G u d
 ·rw[qE] at d;split at d
  ·injection d with e
   subst e;exact U.1
  ·exact h.nd G u d
 ·simp only[qE] at Y aa;have q: ∀{G:Og} {u:zX},(if G=o then ϊ t' else qm s.strs G)=ϊ u->i∈thJ u.buf.holds-> ∃v,qm s.strs G=ϊ v/\i∈thJ v.buf.holds:=by
   intro G u d hi;split at d
   ·rename_i e;injection d with e2
    subst e2;exact⟨t,by rw[e];exact I,N.subset (ο _ hi)⟩
   ·exact⟨u,d,hi⟩
  obtain⟨ao,ac,ae⟩:=q Y ah;obtain⟨ap,ad,af⟩:=q aa ai;exact h.dis an ao o2 ap ac ad i ae af
 ·simp only at d;rw[qE] at d;split at d
  ·injection d with e
   subst e;exact h.few o t I i (N.subset (ο _ hi))
  ·exact h.few G u d i hi
 ·obtain⟨a,b,c⟩:=h.owd x l aj i hi;refine⟨a,λH=>b (ab i H),λH=>H.elim c λH=>b ⟨o,t,I,N.subset (ϔ _ H)⟩⟩
 ·obtain⟨l,a,b,c,H⟩:=h.src x i al;refine⟨l,a,b,c, ?_⟩;rcases H with H | H | H
  ·exact ϐ H
  ·rcases am i H with e | e
   ·exact ϓ (ϐ e)
   ·exact ϓ (ϓ (ϓ e))
  ·exact ϓ (ϓ (ϐ H))
 ·rcases held_put.1 ag with J | ⟨G,u,e,O,h3⟩
  ·exact U.2.2 i J i hi rfl
  ·exact e (h.dis G u o t O I i h3 (N.subset (ϔ _ hi)))
def qW.keep (h:qW P s) {t:zX} (d:qm s.strs o=ϊ t) (e:t'.buf.holds=t.buf.holds):qW P {s with strs:=qB s.strs o t'}:=
 (h.shrink (t':=t') d [] (by rw[e,Ω])).1.iff λx i=>by simp
def qW.strNew (h:qW P s) (ac:o∈orgs) (ab:qm s.strs o=ϋ) (e:t'.buf.holds=[]):qW P {s with strs:=qB s.strs o t'}:=by
 have k: ∀i,zm (qB s.strs o t') i↔zm s.strs i:=λi=>by
  rw[held_put,e];constructor
  ·rintro(Y | ⟨G,u,_,H,I⟩)
   ·simp[thJ] at Y
   ·exact⟨G,u,H,I⟩
  ·rintro⟨G,u,H,I⟩;exact ϓ ⟨G,u,(λc=>by rw[c,ab] at H;cases H),H,I⟩
 refine⟨λG u d=> ?_,λG u d=> ?_,λae af o2 ag O U i J N=> ?_,λG u d i hi=> ?_,h.sub,λx l aa i hi=> ?_,λx i ad=> ?_,h.bel⟩
 ·rw[qE] at d;split at d
  ·rename_i e;rw[e];exact ac
  ·exact h.org G u d
 ·rw[qE] at d;split at d
  ·injection d with e2
   subst e2;rw[e];exact Q3
  ·exact h.nd G u d
 ·simp only[qE] at O U;have q: ∀{G:Og} {u:zX},(if G=o then ϊ t' else qm s.strs G)=ϊ u->i∈thJ u.buf.holds->qm s.strs G=ϊ u:=by
   intro G u d hi;split at d
   ·injection d with e2
    subst e2;rw[e] at hi;simp[thJ] at hi
   ·exact d
  exact h.dis ae af o2 ag (q O J) (q U N) i J N
 ·simp only at d;rw[qE] at d;split at d
  ·injection d with e2
   subst e2;rw[e] at hi;simp[thJ] at hi
  ·exact h.few G u d i hi
 ·rw[k];exact h.owd x l aa i hi
 ·simp only[k];exact h.src x i ad
def qW.grow (h:qW P s) {t:zX} (N:qm s.strs o=ϊ t) (I:Int) (O:(thJ t'.buf.holds).Perm (I::thJ t.buf.holds)) (hi:0<=I/\I<(s.pks.length:Int)) (ad: ¬zm s.strs I) (ar: ∀x l,qm s.lanes x=ϊ l->I∉xW l):
  qW (λx i=>P x i/\i≠I) {s with strs:=qB s.strs o t'}:=by
 have av:(thJ t'.buf.holds).Nodup:=by
  rw[O.nodup_iff,E0];exact⟨λc=>ad ⟨o,t,N,c⟩,h.nd o t N⟩
 have ae: ∀i,zm (qB s.strs o t') i↔i=I∨zm s.strs i:=λi=>by
  rw[held_put];constructor
  ·rintro(ac | ⟨G,u,_,U,Y⟩)
   ·rcases ϫ.1 (O.subset ac) with h4 | h4
    ·exact ϐ h4
    ·exact ϓ ⟨o,t,N,h4⟩
   ·exact ϓ ⟨G,u,U,Y⟩
  ·rintro(ac | ⟨G,u,U,Y⟩)
   ·exact ϐ (O.symm.subset (by rw[ac];exact ϣ))
   ·by_cases e:G=o
    ·subst e;rw[N] at U;injection U with aa
     subst aa;exact ϐ (O.symm.subset (Ϧ _ Y))
    ·exact ϓ ⟨G,u,e,U,Y⟩
 refine⟨λG u d=> ?_,λG u d=> ?_,λam ax o2 ay ak al i au J=> ?_,λG u d i J=> ?_,h.sub,λx l aj i J=> ?_,λx i aw=> ?_,h.bel⟩
 ·rw[qE] at d;split at d
  ·rename_i e;rw[e];exact h.org o t N
  ·exact h.org G u d
 ·rw[qE] at d;split at d
  ·injection d with e
   subst e;exact av
  ·exact h.nd G u d
 ·simp only[qE] at ak al;have q: ∀{G:Og} {u:zX},(if G=o then ϊ t' else qm s.strs G)=ϊ u->i∈thJ u.buf.holds->(i=I/\G=o)∨ ∃v,qm s.strs G=ϊ v/\i∈thJ v.buf.holds:=by
   intro G u d hi;split at d
   ·rename_i e;injection d with ab
    subst ab;rcases ϫ.1 (O.subset hi) with h4 | h4
    ·exact ϐ ⟨h4,e⟩
    ·exact ϓ ⟨t,by rw[e];exact N,h4⟩
   ·exact ϓ ⟨u,d,hi⟩
  rcases q ak au with ⟨aa,ab⟩ | ⟨an,af,ah⟩<;>rcases q al J with ⟨ap,aq⟩ | ⟨ao,ag,ai⟩
  ·rw[ab,aq]
  ·exact ϧ ⟨o2,ao,ag,by rw[<-aa];exact ai⟩ ad
  ·exact ϧ ⟨am,an,af,by rw[<-ap];exact ah⟩ ad
  ·exact h.dis am an o2 ao af ag i ah ai
 ·simp only at d;rw[qE] at d;split at d
  ·injection d with e
   subst e;rcases ϫ.1 (O.subset J) with h4 | h4
   ·rw[h4];exact hi
   ·exact h.few o t N i h4
  ·exact h.few G u d i J
 ·obtain⟨a,b,c⟩:=h.owd x l aj i J;refine⟨a,λH=> ?_,λH=>c H.1⟩;rcases(ae i).1 H with e | e
  ·exact ar x l aj (by rw[<-e];exact J)
  ·exact b e
 ·obtain⟨l,a,b,c,H⟩:=h.src x i aw;refine⟨l,a,b,c, ?_⟩;rcases H with H | H | H
  ·exact ϐ H
  ·exact ϓ (ϐ ((ae i).2 (ϓ H)))
  ·by_cases e:i=I
   ·exact ϓ (ϐ ((ae i).2 (ϐ e)))
   ·exact ϓ (ϓ ⟨H,e⟩)
def qW.settled (h:qW P s) (L:List Int) (H f:Int) (N:1<=f/\f<=8) (U: ∀x,qm s.book (x,H)=ϊ 0->x∈L) (Y: ∀x l,qm s.lanes x=ϊ l->H∉xW l):
  qW (λx i=>P x i/\i≠H) {s with book:=xV s.book L H f}:=by
 have aa:f≠0:=by omega
 refine⟨h.org,h.nd,h.dis,h.few,h.sub,λx l O i hi=> ?_,λx i G=> ?_,λx i v I=> ?_⟩
 ·obtain⟨a,b,c⟩:=h.owd x l O i hi;simp only;rw[yh H f N,ώ (λe=>Y x l O (by rw[<-e.1.1];exact hi))];exact⟨a,b,λd=>c d.1⟩
 ·simp only at G ⊢;rw[yh H f N] at G;split at G
  ·injection G with e
   exact ϧ e aa
  ·rename_i J;obtain⟨l,a,b,c,d⟩:=h.src x i G;refine⟨l,a,b,c, ?_⟩;rcases d with d | d | d
   ·exact ϐ d
   ·exact ϓ (ϐ d)
   ·exact ϓ (ϓ ⟨d,λe=>J ⟨⟨e,U x (by rw[<-e];exact G)⟩,G⟩⟩)
 ·simp only at I;rw[yh H f N] at I;split at I
  ·rename_i J;exact h.bel x i 0 J.2
  ·exact h.bel x i v I
def Xa (l:LnS):(xW (qP l).1++(if (qP l).2.2.2&& !decide ((qP l).2.2.1=0) then [(qP l).2.1] else [])).Perm (xW l)/\(qP l).1.room=l.room/\(qP l).1.gone=l.gone/\(qP l).1.wanted=l.wanted/\(qP l).2.2.1<=8/\0<=(qP l).2.2.1:=by
 rcases xX l with ⟨_,e⟩ | ⟨_,x,A,d,_,e⟩
 ·rw[e];simp
 ·rw[e];refine⟨?_,rfl,rfl,rfl, ?_⟩
  ·unfold xW;rw[d];by_cases ht:(xa l.cur l.tgt x.layer x.key).2.1=0
   ·simp only[ht,Ψ,decide_true,Bool.not_true,Q7,Ϭ,C4,Ω,Ξ,ϡ,C8];rw[D1];intro a;simp only[F1,J1,K3];omega
   ·simp only[ht,C4,decide_false,Bool.not_false,Bool.and_true,Ψ,ϡ];rw[D1];intro a;simp only[F1,J1,K3];omega
  ·unfold xa
   repeat' split
   all_goals (simp)
def VH (l:LnS) (h:1<=l.room):(xW (qN l).1++(if (qN l).2.2.2&&(qN l).2.2.1 then [(qN l).2.1] else [])).Perm (xW l)/\(qN l).1.room=l.room/\(qN l).1.gone=l.gone/\(qN l).1.wanted=l.wanted:=by
 rcases zj l with ⟨_,e⟩ | ⟨x,f,B,d,e⟩
 ·rw[e];simp
 ·rw[e];refine⟨?_,rfl,rfl,rfl⟩;unfold xW;rw[d];by_cases hc:l.C.length<l.room
  ·simp only[hc,Ψ,not_true,decide_false,Q7,Ϭ,C4,Ω,Ξ,ϡ,C8];rw[D1];intro a;simp only[F1,J1,K3];omega
  ·cases hC:l.C with
   | nil=>rw[hC] at hc;simp at hc;omega
   | cons o C=>
    rw[hC] at hc;simp only[hc,C4,not_false_eq_true,decide_true,Bool.and_true,Ψ,Ξ,ϡ,C8,V6,List.head?_cons,D0,ϩ];rw[D1];intro a;simp only[F1,J1,K3];omega
def Es (l:LnS) (x:ItS) (h:1<=l.room) (d:l.gone=ύ) (G:l.wanted=ό) (H:jD x.pk=ό) (I:je x.layer=ό):(xW (jL l x).1++(if (jL l x).2.2.1 then [(jL l x).2.1] else [])).Perm (x.id::xW l)/\(jL l x).1.room=l.room/\(jL l x).1.gone=l.gone/\(jL l x).1.wanted=l.wanted:=by
 have e:jL l x=((vf l x).1,(vf l x).2.1,(vf l x).2.2,0):=by unfold jL;rw[d,G,H,I];simp
 rw[e];unfold vf;by_cases hc:l.A.length<l.room
 ·rw[ϒ hc];refine⟨?_,rfl,rfl,rfl⟩;unfold xW;simp only[Ϭ,C4,Ω,Ξ,ϡ,C8];rw[D1];intro a;simp only[F1,J1,K3];omega
 ·rw[ώ hc];refine⟨?_,rfl,rfl,rfl⟩;unfold xW;cases hA:l.A with
  | nil=>rw[hA] at hc;simp at hc;omega
  | cons o A=>
   simp only[Ψ,Ξ,ϡ,C8,V6,List.head?_cons,D0,ϩ];rw[D1];intro a;simp only[F1,J1,K3];omega
def WU (l:LnS) (n:Int) (d:n=1∨n=2∨n=3):(xW (kz l n)++UI l n).Perm (xW l):=by
 unfold xW kz UI;rcases d with rfl | rfl | rfl<;>simp only[Ψ,(by decide: ¬(2:Int)=1),(by decide: ¬(3:Int)=1),(by decide: ¬(3:Int)=2),(by decide: ¬(1:Int)=2),(by decide: ¬(1:Int)=3),(by decide: ¬(2:Int)=3),C4,C8,I5,Ω]
 ·rw[D1];intro a;simp only[F1];omega
 ·rw[D1];intro a;simp only[F1];omega
 ·exact List.Perm.refl _
def qW.fin (h:qW P s) (J: ∀y i,P y i->y∈subIds->False):OwO s:=
  ⟨h.org,h.nd,h.dis,h.few,h.sub,λx l N i hi=>by obtain⟨G,H,_⟩:=h.owd x l N i hi;exact⟨G,H,λc=>c⟩,
   λx i hi=>by
    obtain⟨l,G,H,I,d⟩:=h.src x i hi
    refine⟨l,G,H,I, ?_⟩
    rcases d with d | d | d
    · exact ϐ d
    · exact ϓ (ϐ d)
    · exact(J x i d (h.sub x l G).1).elim,h.bel⟩
def qW.choose (h:qW P s) (x:Int):qW P (s.choose x):=by
 unfold RmS.choose;cases hl:qm s.lanes x with
 | none=>exact h
 | some l=>
  obtain⟨d,H,G,I,N,J⟩:=Xa l;simp only;cases hc:(qP l).2.2.2&& !decide ((qP l).2.2.1=0) with
  | false=>
   rw[hc] at d;simp only[Ϭ,C4] at d ⊢;exact h.lane hl [] 1 ζ d H G (λe=>by rw[I];exact e)
  | true=>
   rw[hc] at d;simp only[Ψ] at d ⊢;have:(qP l).2.2.1≠0:=by
    intro e;rw[e] at hc;simp at hc
   exact h.lane hl [(qP l).2.1] (qP l).2.2.1 τ d H G (λe=>by rw[I];exact e)
def qW.rewrite (h:qW P s) (x:Int):qW P (s.rewrite x):=by
 unfold RmS.rewrite;cases hl:qm s.lanes x with
 | none=>exact h
 | some l=>
  obtain⟨d,H,G,I⟩:=VH l (h.sub x l hl).2.1;simp only;cases hc:(qN l).2.2.2&&(qN l).2.2.1 with
  | false=>
   rw[hc] at d;simp only[Ϭ,C4] at d ⊢;exact h.lane hl [] 1 ζ d H G (λe=>by rw[I];exact e)
  | true=>
   rw[hc] at d;simp only[Ψ] at d ⊢;exact h.lane hl [(qN l).2.1] 6 ζ d H G (λe=>by rw[I];exact e)
def qW.drainL (h:qW P s) (w:Og):qW P (s.drainL w):=by
 unfold RmS.drainL;cases hl:qm s.lanes w.2 with
 | none=>exact h
 | some l=>
  simp only;refine h.lane hl (UI l (xr w.1)) 8 ζ (WU l _ ?_) rfl rfl (λe=>e);unfold xr
  repeat' split
  all_goals simp
def KM (m:Bk) (x i:Int) {f:Int} (d:f≠0):qm (vW m x f) (x,i)≠ϊ 0:=by
 rw[Ju];cases qm m (x,i) with
 | none=>simp
 | some v=>
  simp only[D0,true_and];split
  ·intro e;injection e with e;exact d e
  ·rename_i G;intro e;injection e with e;exact G e
def gR (m:Bk) {y:Int} (i f:Int) (h:y≠x):qm (vW m x f) (y,i)=qm m (y,i):=by
 rw[Ju];cases qm m (y,i) with
 | none=>rfl
 | some v=>simp[h]
def KL (m:Bk) (x i f v:Int) (h:qm (vW m x f) (x,i)=ϊ v): ∃v',qm m (x,i)=ϊ v':=by
 rw[Ju] at h;cases hm:qm m (x,i) with
 | none=>rw[hm] at h;cases h
 | some v'=>exact⟨v',rfl⟩
def qW.write (h:qW P s) (x:Int) (acc:Bool):qW P (s.write x acc):=by
 unfold RmS.write;cases hl:qm s.lanes x with
 | none=>exact h
 | some l=>
  have ac:l.gone=ό->xW l=[]:=λd=>by
   cases hi:xW l with
   | nil=>rfl
   | cons i L=>
    obtain⟨ad,_⟩:=h.owd x l hl i (by rw[hi];exact ϣ);obtain⟨af,U,Y,_⟩:=h.src x i ad;rw[hl] at U;injection U with e
    subst e;rw[d] at Y;cases Y
  simp only;cases d:(qJ l acc).1.gone with
  | true=>
   have hi:(qJ l acc).1.room=l.room/\xW (qJ l acc).1=[]:=by
    rcases zc l acc with ⟨_,e⟩ | ⟨o,C,N,⟨G,e⟩ | ⟨_,_,_,e⟩⟩
    ·rw[e] at d ⊢;exact⟨rfl,ac d⟩
    ·rw[e] at d;simp only at d;exfalso;have H:l.gone=ό:=by
      cases H:l.gone with
      | true=>rfl
      | false=>
       unfold jk at G d;rw[ώ (by rw[H];decide)] at G d;cases acc with
       | true=>simp at d
       | false=>
        simp only[Ϭ,C4] at G d;rw[G] at d;cases d
     have:=ac H;unfold xW at this;rw[N] at this;simp at this
    ·rw[e];exact⟨rfl,rfl⟩
   simp only[Ψ];obtain⟨b,G,aa⟩: ∃b,(if (qJ l acc).2.2.2&&decide ((qJ l acc).2.2.1=1) then jn s.book x (qJ l acc).2.1 (qJ l acc).2.2.1 else s.book)=b/\(∀y i,y≠x->qm b (y,i)=qm s.book (y,i))/\ ∀i v,qm b (x,i)=ϊ v-> ∃v',qm s.book (x,i)=ϊ v':=by
    refine⟨_,rfl, ?_⟩;split
    ·rename_i O;rw[Φ] at O;have:(qJ l acc).2.2.1=1:=Ϛ O.2;rw[this];refine⟨λy i J=> ?_,λi v I=> ?_⟩
     ·rw[jM _ _ _ _ ζ,ώ (λc=>J (by have:=ϰ Prod.fst c.1;exact this))]
     ·rw[jM _ _ _ _ ζ] at I;split at I
      ·rename_i O;exact⟨0,O.2⟩
      ·exact⟨v,I⟩
    ·exact⟨λy i J=>rfl,λi v I=>⟨v,I⟩⟩
   rw[G];refine(h.endL x (L:=qB s.lanes x (qJ l acc).1) (b:=vW b x 7) (λy J=>by rw[qE,ώ J]) (λm ab=> ?_) (λy i J=> ?_) (λi=>KM b x i ζ) (λi v I=> ?_)).same rfl rfl rfl rfl
   ·rw[qE,ϒ rfl] at ab;injection ab with e
    subst e;exact⟨(h.sub x l hl).1,by rw[hi.1];exact(h.sub x l hl).2.1,hi.2⟩
   ·rw[gR b i 7 J];exact aa.1 y i J
   ·obtain⟨v',ae⟩:=KL b x i 7 v I;exact aa.2 i v' ae
  | false=>
   simp only[Ϭ,C4];rcases zc l acc with ⟨_,e⟩ | ⟨o,C,N,⟨G,e⟩ | ⟨_,_,G,e⟩⟩
   ·rw[e] at d ⊢;simp only[I1,Ϭ,C4];exact(h.lane hl [] 1 ζ (by rw[Ω]) rfl rfl (λe=>e)).same rfl rfl rfl rfl
   ·rw[e] at d ⊢;simp only at d;have H:l.gone=ύ:=by
     cases H:l.gone with
     | false=>rfl
     | true=>
      unfold jk at d;rw[ϒ H] at d;cases d
    cases acc with
    | true=>
     simp only[Ψ,E8,decide_true];refine(h.lane (l':={l with C:=C,W:=l.W++[o],row:=(jk l ό).1,gone:=(jk l ό).2.1}) hl [o.1] 1 ζ ?_ rfl (by rw[H];exact d) (λe=>e)).same rfl rfl rfl rfl;unfold xW;rw[N];rw[D1];intro a;simp only[F1,ϡ,J1,K3];omega
    | false=>
     simp only[Ϭ,C4,(by decide: ¬(0:Int)=1),decide_false,Q7];refine(h.lane (l':={l with C:=o::C,row:=(jk l ύ).1,gone:=(jk l ύ).2.1}) hl [] 1 ζ ?_ rfl (by rw[H];exact d) (λe=>e)).same rfl rfl rfl rfl;unfold xW;rw[N,Ω]
   ·rw[e] at d;simp only at d;rw[G] at d;cases d
def Yp (d:ItS) (x:Int):(s.put1 d x).strs=s.strs/\(s.put1 d x).pks=s.pks:=by
 unfold RmS.put1;split
 ·cases qm s.lanes x with
  | none=>exact⟨rfl,rfl⟩
  | some l=>simp only;split<;>exact⟨rfl,rfl⟩
 ·exact⟨rfl,rfl⟩
def qW.put1 (h:qW P s) (d:ItS) (x:Int) (Y:P x d.id) (ab: ¬zm s.strs d.id) (ac:jD d.pk=ό) (ad:je d.layer=ό):
  qW (λy i=>P y i/\ ¬(y=x/\i=d.id)) (s.put1 d x):=by
 unfold RmS.put1;by_cases ho:qm s.book (x,d.id)=ϊ 0
 ·rw[ϒ ho];obtain⟨l,I,aa,ae,_⟩:=h.src x d.id ho;rw[I];simp only;obtain⟨H,N,O,U⟩:=Es l d (h.sub x l I).2.1 aa ae ac ad
  have key:=λE f hf (hq:(xW (jL l d).1++E).Perm ([d.id]++xW l))=>(h.laneN I [d.id] E f hf hq (λi hi=>by
   rw[Γ] at hi;rw[hi]
   exact⟨Y,ab,ho⟩) η N O (λe=>by rw[U];exact e)).iff (P':=λy i=>P y i/\ ¬(y=x/\i=d.id)) (λy i=>by simp)
  cases hd:(jL l d).2.2.1 with
  | true=>
   rw[hd] at H;simp only[Ψ] at H ⊢;exact key [(jL l d).2.1] 6 ζ H
  | false=>
   rw[hd] at H;simp only[Ϭ,C4] at H ⊢;exact key [] 6 ζ H
 ·rw[ώ ho]
  exact⟨h.org,h.nd,h.dis,h.few,h.sub,λy l I i hi=>by obtain⟨a,b,c⟩:=h.owd y l I i hi;exact⟨a,b,λG=>c G.1⟩,λy i J=>by
   obtain⟨l,a,b,c,G⟩:=h.src y i J;refine⟨l,a,b,c, ?_⟩;rcases G with G | G | G
   ·exact ϐ G
   ·exact ϓ (ϐ G)
   ·exact ϓ (ϓ ⟨G,λe=>ho (by rw[<-e.1,<-e.2];exact J)⟩),h.bel⟩
def qW.puts (G:ItS) (H:jD G.pk=ό) (I:je G.layer=ό): ∀(L:List Int) {P:Int->Int->Prop} {s:RmS},qW P s->L.Nodup->(∀x∈L,P x G.id)-> ¬zm s.strs G.id->
  qW (λy i=>P y i/\ ¬(y∈L/\i=G.id)) (L.foldl (RmS.put1 G) s)
 | [],P,s,h,_,_,_=>h.iff λy i=>by simp
 | x::L,P,s,h,hn,hP,hh=>by
  rw[E0] at hn;rw[B6];have N:=h.put1 G x (hP x ϣ) hh H I;refine(qW.puts G H I L N hn.2 (λy J=>⟨hP y (Ϧ _ J),λe=>hn.1 (by rw[<-e.1];exact J)⟩) (by rw[(Yp G x).1];exact hh)).iff λy i=> ?_
  rw[ϫ];constructor
  ·rintro⟨⟨a,b⟩,c⟩;exact⟨a,λd=>d.1.elim (λe=>b ⟨e,d.2⟩) (λe=>c ⟨e,d.2⟩)⟩
  ·rintro⟨a,b⟩;exact⟨⟨a,λd=>b ⟨ϐ d.1,d.2⟩⟩,λd=>b ⟨ϓ d.1,d.2⟩⟩
def EA {b:Jb} (h:jU b d=ό):(thJ (zP b d).1.holds++[(zP b d).2.2.1]).Perm (thJ b.holds):=by
 unfold zP;cases hb:b.holds with
 | nil=>unfold jU at h;rw[hb] at h;cases h
 | cons x T=>
  simp only[h,Ψ];unfold jV;rw[hb];simp only[thJ,ϡ];exact List.perm_append_singleton _ _
def Zy (h:o∈orgs):je o.2=ό:=by
 unfold orgs at h;simp only[ϫ,O1,or_false] at h;rcases h with rfl | rfl | rfl | rfl | rfl | rfl | rfl | rfl | rfl<;>rfl
def qW.order (h:OwO s) (U: ∀a∈s.pks,jD a.pk=ό):OwO s.order:=by
 unfold RmS.order;cases d:s.ready with
 | none=>exact h
 | some o=>
  simp only;cases ht:qm s.strs o with
  | none=>exact h
  | some t=>
   simp only;have Y:jU t.buf s.clock=ό:=by
    have:=P0 d;unfold RmS.readyAt at this;rw[ht] at this;exact this
   have H:=EA Y;obtain⟨I,J,aa⟩:=qW.shrink h (t':={t with buf:=(zP t.buf s.clock).1}) ht [(zP t.buf s.clock).2.2.1] H;have hi:=h.few o t ht _ (H.subset (ϔ _ ϣ));unfold RmS.orderAt;have O:jD (s.item o (zP t.buf s.clock).2.2.1).pk=ό:=by
    refine U _ ?_;have G:(zP t.buf s.clock).2.2.1.toNat<s.pks.length:=by omega
    rw[ϑ,ϖ G];exact Ϣ G
   refine(qW.puts (s.item o (zP t.buf s.clock).2.2.1) O (Zy (h.org o t ht)) subIds I ζ (λx _=>ϓ ϣ) (J _ ϣ)).fin λy i N d=> ?_
   obtain⟨a,b⟩:=N;rcases a with a | a
   ·exact a
   ·rw[Γ] at a;exact b ⟨d,a⟩
def qW.drain1s: ∀(L:List Int) {P:Int->Int->Prop} {s:RmS},qW P s->(∀i∈L,∀x l,qm s.lanes x=ϊ l->i∉xW l)->qW (λy i=>P y i/\i∉L) (L.foldl RmS.drain1 s)
 | [],P,s,h,_=>h.iff λy i=>by simp
 | i0::L,P,s,h,hL=>by
  rw[B6]
  have G:qW (λx i=>P x i/\i≠i0) (s.drain1 i0):=h.settled subIds i0 8 ζ (λx H=>by
   obtain⟨l,a,_⟩:=h.src x i0 H
   exact(h.sub x l a).1) (hL i0 ϣ)
  refine(qW.drain1s L G (λi hi=>hL i (Ϧ _ hi))).iff λy i=> ?_
  rw[ϫ];constructor
  ·rintro⟨⟨a,b⟩,c⟩;exact⟨a,λd=>d.elim b c⟩
  ·rintro⟨a,b⟩;exact⟨⟨a,λd=>b (ϐ d)⟩,λd=>b (ϓ d)⟩
def WM: ∀(n:Nat) (b:Jb),b.holds.length<=n->(Jh n b).holds=[]:=by
 intro n
 induction n with
 | zero=>intro b h;unfold Jh;exact A4.1 τ
 | succ n ih=>
  intro b h;unfold Jh;refine ih _ ?_;unfold jV;cases hb:b.holds with
  | nil=>simp only[hb];simp
  | cons x T=>rw[hb] at h;simp only[Ϙ] at h ⊢;omega
def qW.drainO (h:OwO s) (o:Og):OwO (s.drainO o):=by
 unfold RmS.drainO;cases ht:qm s.strs o with
 | none=>exact h
 | some t=>
  simp only;have J:(kA t.buf).holds=[]:=WM _ _ (ϕ _);obtain⟨d,N,O⟩:=qW.shrink h (t':={t with buf:=kA t.buf}) ht (thJ t.buf.holds) (by simp only[J];exact List.Perm.refl _);refine(qW.drain1s (thJ t.buf.holds) d (λi hi x l I H=>(h.owd x l I i H).2.1 ⟨o,t,ht,hi⟩)).fin λy i G _=> ?_
  obtain⟨a,b⟩:=G;exact a.elim id b
def qW.drainOs: ∀(L:List Og) {s:RmS},OwO s->OwO (L.foldl RmS.drainO s)
 | [],_,h=>h
 | o::L,_,h=>qW.drainOs L (qW.drainO h o)
def Vb {s:RdS} {n:Int} (G:0<=n) (h:(tkS s n).2=0):s.2=0/\n<=s.1.length/\((tkS s n).1.length:Int)=s.1.length-n/\((tkB s.1 n).length:Int)=n:=by
 obtain⟨l,e⟩:=s;unfold tkS tkE tkL at *;simp only at h ⊢;split at h
 ·cases h
 ·rename_i H;have d:n<=(l.length:Int):=by
   rcases Int.lt_or_le (l.length:Int) n with c | c
   ·exact ϧ ⟨c,h⟩ H
   ·exact c
  refine⟨h,d, ?_,(wI G d).2⟩;rw[Ϡ];omega
def Vi: ∀(n:Nat) {s:RdS},(xf n s).2.2=0->s.2=0/\4* n<=s.1.length/\(xf n s).2.1.length=s.1.length-4* n
 | 0,s,h=>⟨h,τ,by show s.1.length=_;omega⟩
 | n+1,s,h=>by
  obtain⟨d,H,a3,_⟩:=Vb (s:=(xf n s).2) (n:=4) ζ h;obtain⟨G,I,J⟩:=Vi n d;refine⟨G,τ, ?_⟩;show (tkS (xf n s).2 4).1.length=_;omega
def uV: ∀(n:Nat) {s:RdS},Byt s.1->Byt (xf n s).2.1/\ ∀x∈(xf n s).1,U32 x
 | 0,s,h=>⟨h,λx d=>by cases d⟩
 | n+1,s,h=>by
  obtain⟨a,b⟩:=uV n h;refine⟨a.drop _,λx d=> ?_⟩;rcases ϥ.1 d with c | c
  ·exact b x c
  ·rw[Γ] at c;have G:=XJ (s:=(xf n s).2) a 4 ζ;rw[c];exact⟨G.1,by have:=G.2;show num (tkB (xf n s).2.1 ((4:Nat):Int))<=4294967295;omega⟩
def Ih {f:Int} {s:RdS} (I:Byt s.1) (h:(yR f s).2=0):s.2=0/\(yR f s).1.length<=s.1.length/\Byt (yR f s).1:=by
 unfold yR at *;split at h
 ·rename_i d;exact ϧ h d
 ·rename_i d;rw[ώ d];have H:s.2=0:=Classical.not_not.1 d;split at h
  ·rename_i G;rw[ϒ G];split at h
   ·rename_i J;rw[ϒ J];refine⟨H, ?_⟩;simp only;unfold za;split
    ·exact⟨Ϻ _,xB⟩
    ·split
     ·exact⟨Ϻ _,xB⟩
     ·exact⟨by rw[ϛ];omega,I.take _⟩
   ·cases h
  ·rename_i G;rw[ώ G];exact⟨H,ϕ _,I⟩
def GJ {l:List Int} (h: ∀x∈l,U32 x) (i:Nat):U32 (l.getD i 0):=by
 rw[ϑ];cases hi:l[i]? with
 | none=>exact⟨ζ,ζ⟩
 | some x=>exact h x (List.mem_of_getElem? hi)
def Ep {b:List Int} (I:Byt b) (h:(jS b).2=0):ud (jS b).1/\gG (jS b).1/\jD (jS b).1=ό/\0<=(jS b).1.sq/\(jS b).1.sq<=65535:=by
 rw[<-Dv] at h ⊢;unfold UQ at h ⊢;split at h
 ·cases h
 ·rename_i ap;rw[ώ ap];split at h
  ·cases h
  ·rename_i al;rw[ώ al];split at h
   ·cases h
   ·rename_i ao;rw[ώ ao];have J:Byt (b.drop 12):=I.drop 12;have am:Byt (zU (fH b) (b.drop 12,0)).2.1:=by
     unfold zU gE;split
     ·exact(((uV _ J).1.drop _).drop _).drop _
     ·exact(uV _ J).1
    have N:(yR (fH b) (zU (fH b) (b.drop 12,0)).2).2=0:=by
     unfold Xk at h;split at h
     ·assumption
     ·rename_i an;exact ϧ h an
    unfold Xk;rw[ϒ N];obtain⟨d,H,p2⟩:=Ih am N;have ay:(fH b%16).toNat<=15:=by omega
    have ac:=XJ (s:=s2H b) ((I.drop _).drop _) 2 ζ;have ad:=XJ (s:=s3H b) (((I.drop _).drop _).drop _) 4 ζ;have ae:=XJ (s:=s4H b) ((((I.drop _).drop _).drop _).drop _) 4 ζ;have G:U16 (num (tkB (s2H b).1 2)):=⟨ac.1,by have:=ac.2;show num (tkB (s2H b).1 ((2:Nat):Int))<=65535;omega⟩;have ag:U32 (num (tkB (s3H b).1 4)):=⟨ad.1,by have:=ad.2;show num (tkB (s3H b).1 ((4:Nat):Int))<=4294967295;omega⟩;have af:U32 (num (tkB (s4H b).1 4)):=⟨ae.1,by have:=ae.2;show num (tkB (s4H b).1 ((4:Nat):Int))<=4294967295;omega⟩;have ax:(b.drop 12).length=b.length-12:=Ϡ;unfold mkH;by_cases hx:fH b/16%2=1
    ·have e:zU (fH b) (b.drop 12,0)=(((xf (fH b%16).toNat (b.drop 12,0)).1,(gE (xf (fH b%16).toNat (b.drop 12,0)).2).1.1,(gE (xf (fH b%16).toNat (b.drop 12,0)).2).1.2),(gE (xf (fH b%16).toNat (b.drop 12,0)).2).2):=by
      unfold zU;rw[ϒ hx]
     rw[e] at d H p2 N ⊢;obtain⟨O,ab⟩:=uV (fH b%16).toNat (s:=(b.drop 12,0)) J;have aq:=QG (fH b%16).toNat (b.drop 12,0);have aa:=λh=>Vi (fH b%16).toNat (s:=(b.drop 12,0)) h
     generalize xf (fH b%16).toNat (b.drop 12,0)=r at *;have ah:=XJ (s:=r.2) O 2 ζ;have ar:=XJ (s:=tkS r.2 2) (O.drop _) 2 ζ;unfold gE at d H p2 ⊢;simp only at d H p2 ⊢;obtain⟨ai,au,a3,a4⟩:=Vb (by have:=ar.1;show 0<=4* num (tkB (tkS r.2 2).1 ((2:Nat):Int));omega) d;obtain⟨aj,av,aw,_⟩:=Vb ζ ai;obtain⟨c1,c2,c3,_⟩:=Vb ζ aj;obtain⟨ak,U,Y⟩:=aa c1;simp only at U Y;refine⟨⟨by simp only;omega,G,ag,af,GJ ab,⟨ah.1,by have:=ah.2;show num (tkB r.2.1 ((2:Nat):Int))<=65535;omega⟩,jX ((O.drop _).drop _) _,p2⟩,⟨by simp only;omega,by simp only;omega,by simp only;omega⟩, ?_,G.1,G.2⟩;rw[jZ];refine⟨by simp only;omega,by simp only;omega,λc=> ?_,by simp only;omega, ?_⟩
     ·simp only[decide_eq_false_iff_not] at c;exact ϧ hx c
     ·unfold uO;simp only[hx,decide_true,Ψ];omega
    ·have e:zU (fH b) (b.drop 12,0)=(((xf (fH b%16).toNat (b.drop 12,0)).1,0,[]),(xf (fH b%16).toNat (b.drop 12,0)).2):=by
      unfold zU;rw[ώ hx]
     rw[e] at d H p2 N ⊢;obtain⟨O,ab⟩:=uV (fH b%16).toNat (s:=(b.drop 12,0)) J;have aq:=QG (fH b%16).toNat (b.drop 12,0);have aa:=λh=>Vi (fH b%16).toNat (s:=(b.drop 12,0)) h
     generalize xf (fH b%16).toNat (b.drop 12,0)=r at *;simp only at d H p2 ⊢;obtain⟨ak,U,Y⟩:=aa d;simp only at U Y;refine⟨⟨by simp only;omega,G,ag,af,GJ ab,(⟨ζ,ζ⟩:U16 0),xB,p2⟩,⟨by simp only;omega,η,by simp only;omega⟩, ?_,G.1,G.2⟩;rw[jZ];refine⟨by simp only;omega,by simp only;omega,λc=>⟨rfl,rfl⟩,η, ?_⟩;unfold uO;simp only[hx,decide_false,Ϭ,C4];omega
def Jt (id:Int) (G:0<=id) (k:Int×Int): ∀(L:List Int) (b:Bk),(∀x∈L,0<=x/\x<6)->(∀x,qm b (x,id)=ϋ∨qm b (x,id)=ϊ 0)->qm (Xh b L id) k=if k.2=id/\k.1∈L then ϊ 0 else qm b k
 | [],b,_,_=>by simp[Xh]
 | x::L,b,hL,hb=>by
  have d: ∀k,qm (kE b (x,id)).1 k=if k=(x,id) then ϊ 0 else qm b k:=by
   intro k;unfold kE;rw[ϒ ⟨(hL x ϣ).1,(hL x ϣ).2,G⟩];rcases hb x with h | h
   ·rw[h];simp only[Option.isSome_none,Ϭ,C4];rw[qE]
   ·rw[h];simp only[Option.isSome_some,Ψ];split
    ·rename_i e;rw[e,h]
    ·rfl
  have H:=Jt id G k L (kE b (x,id)).1 (λy J=>hL y (Ϧ _ J)) (λy=>by
   rw[d];split
   ·exact ϓ rfl
   ·exact hb y)
  unfold Xh at H ⊢;rw[B6,H,d];obtain⟨I,N⟩:=k;by_cases e:N=id<;>by_cases e2:I=x<;>by_cases e3:I∈L<;>simp[e,e2,e3]
  all_goals (simp_all)
def Dy (b:Jb) (n d x:Int):((jB b n d x).2=0->(thJ (jB b n d x).1.holds).Perm (x::thJ b.holds))/\((jB b n d x).2≠0->(jB b n d x).1=b):=by
 unfold jB;split
 ·exact⟨λe=>by simp at e,λ_=>rfl⟩
 ·split
  ·exact⟨λe=>by simp at e,λ_=>rfl⟩
  ·split
   ·exact⟨λe=>by simp at e,λ_=>rfl⟩
   ·refine⟨λ_=> ?_,λe=>ϧ rfl e⟩;simp only;unfold uH thJ;rw[Ξ,ϡ];refine(List.perm_middle).trans (List.Perm.cons _ ?_);rw[<-Ξ,A5]
def Dz (b:Jb) (n d x:Int):(zq (jB b n d x).2=0↔(jB b n d x).2=0)/\0<=zq (jB b n d x).2/\zq (jB b n d x).2<=8:=by
 unfold jB
 repeat' split
 all_goals (simp[zq])
def BJ (s:RmS):Prop:= ∀x sb,qm s.tab.u x=ϊ sb->sb.2.1=ό-> ∃l,qm s.lanes x=ϊ l/\l.gone=ύ/\l.wanted=ό
def mem_prR {d:Sb->Bool} {u:List (Int×Sb)}:x∈prR d u↔x∈subIds/\ ∃sb,qm u x=ϊ sb/\d sb=ό:=by
 unfold prR;rw[G2];refine and_congr Iff.rfl ?_;cases qm u x with
 | none=>simp
 | some sb=>simp
def subIds_iff:x∈subIds↔0<=x/\x<6:=by
 unfold subIds;simp only[ϫ,O1,or_false];omega
def qW.accept (h:OwO s) (ai:BJ s) (o:Og) (p:Pk):OwO (s.accept o p):=by
 unfold RmS.accept;cases ht:qm s.strs o with
 | none=>exact h
 | some t=>
  simp only;have ag: ∀x,qm s.book (x,(s.pks.length:Int))=ϋ:=λx=>by
   cases O:qm s.book (x,(s.pks.length:Int)) with
   | none=>rfl
   | some v=>have:=(h.bel x _ v O).2;omega
  have ah: ∀x∈prR (jH o.1) s.tab.u,0<=x/\x<6:=λx d=>subIds_iff.1 (mem_prR.1 d).1
  have J:=λk=>Jt (s.pks.length:Int) τ k _ s.book ah (λx=>ϐ (ag x))
  have ac:qW (λ_ i=>i=(s.pks.length:Int)) {s with pks:=s.pks++[⟨o,yJ t p.sq,p⟩],book:=Xh s.book (prR (jH o.1) s.tab.u) s.pks.length}:=by
   refine⟨h.org,h.nd,h.dis,λaa u ak i hi=> ?_,h.sub,λx l U i hi=> ?_,λx i d=> ?_,λx i v N=> ?_⟩
   ·have:=h.few aa u ak i hi;simp only[Ϗ,Ϙ,ϱ];omega
   ·obtain⟨a,b,_⟩:=h.owd x l U i hi;have ar:=(h.bel x i 0 a).2;refine⟨?_,b,λe=>by omega⟩;simp only;rw[J,ώ (λc=>by have:=c.1;simp only at this;omega)];exact a
   ·simp only at d ⊢;rw[J] at d;split at d
    ·rename_i H;obtain⟨ae,af⟩:=H;simp only at ae af;obtain⟨ao,al,Y⟩:=(mem_prR.1 af).2;unfold jH at Y;rw[Φ] at Y;obtain⟨l,a,b,c⟩:=ai x ao al Y.1;exact⟨l,a,b,c,ϓ (ϓ ae)⟩
    ·obtain⟨l,a,b,c,G⟩:=h.src x i d;exact⟨l,a,b,c,G.elim ϐ λG=>G.elim (λG=>ϓ (ϐ G)) False.elim⟩
   ·simp only at N ⊢;rw[J] at N;simp only[Ϗ,Ϙ,ϱ];split at N
    ·rename_i H;have:=H.1;simp only at this;omega
    ·have:=h.bel x i v N;omega
  have aj: ¬zm s.strs (s.pks.length:Int):=λ⟨aa,u,a,b⟩=>by have:=(h.few aa u a _ b).2;omega
  have ad: ∀x l,qm s.lanes x=ϊ l->(s.pks.length:Int)∉xW l:=λx l U hi=>by
   have:=(h.bel x _ 0 (h.owd x l U _ hi).1).2;omega
  obtain⟨am,an⟩:=Dy t.buf (yJ t p.sq) s.clock s.pks.length;obtain⟨ab,ap,aq⟩:=Dz t.buf (yJ t p.sq) s.clock s.pks.length;by_cases hf:zq (jB t.buf (yJ t p.sq) s.clock s.pks.length).2=0
  ·rw[ϒ hf];exact((ac.grow (t':=YZ t p s.clock s.pks.length) ht (s.pks.length:Int) (am (ab.1 hf)) (by simp only[Ϗ,Ϙ,ϱ];omega) aj ad).fin (λy i I _=>I.2 I.1)).same rfl rfl rfl rfl
  ·rw[ώ hf];have O:(YZ t p s.clock s.pks.length).buf.holds=t.buf.holds:=by
    unfold YZ;simp only;rw[an (λe=>hf (ab.2 e))]
   refine((((ac.keep (t':=YZ t p s.clock s.pks.length) ht O).settled (prR (jH o.1) s.tab.u) (s.pks.length:Int) (zq (jB t.buf (yJ t p.sq) s.clock s.pks.length).2) τ (λx d=> ?_) ad)).fin (λy i I _=>I.2 I.1)).same rfl rfl rfl rfl;simp only at d;rw[J] at d;split at d
   ·rename_i H;exact H.2
   ·rw[ag x] at d;cases d
def qW.tell1 (h:qW P s) (x:Int):qW P (s.tell1 x):=by
 unfold RmS.tell1;cases qm s.tab.u x with
 | none=>exact h
 | some sb=>
  simp only;split
  ·cases qm s.lanes x with
   | none=>exact h
   | some l=>
    simp only;split
    ·cases ht:qm s.strs (sb.2.2,l.cur) with
     | none=>exact h
     | some t=>exact h.keep ht rfl
    ·exact h
  ·exact h
def uv {Q:RmS->Prop} (d: ∀s x,Q s->Q (f s x)): ∀(L:List α) (s:RmS),Q s->Q (L.foldl f s)
 | [],_,h=>h
 | x::L,s,h=>uv d L (f s x) (d s x h)
def qW.tell (h:qW P s) (b:List Int):qW P (s.tell b):=by
 unfold RmS.tell;split
 ·refine uv (λs x h=> ?_) _ _ (h.same rfl rfl rfl rfl);unfold RmS.tellS;exact uv (Q:=qW P) (λs x h=>qW.tell1 h x) _ _ h
 ·exact h.same rfl rfl rfl rfl
def qW.read (h:OwO s) (G:BJ s):OwO s.read:=by
 unfold RmS.read;cases s.queue with
 | nil=>exact h
 | cons b q=>
  simp only;have d:OwO {s with queue:=q}:=qW.same h rfl rfl rfl rfl;split
  ·exact qW.tell d b
  ·unfold RmS.media;split
   ·cases qm s.tab.o (jS b).1.sc with
    | none=>exact qW.same d rfl rfl rfl rfl
    | some o=>exact qW.accept d G o _
   ·exact qW.same d rfl rfl rfl rfl
def qW.tick (h:qW P s):qW P s.tick.1:=by
 unfold RmS.tick;split
 ·exact h
 ·refine uv (λs o h=> ?_) _ _ (h.same rfl rfl rfl rfl);unfold RmS.tick1;cases ht:qm s.strs o with
  | none=>exact h
  | some t=>
   simp only;split
   ·exact(h.keep (t':={t with asks:=(vY s.cfg.space s.cfg.retry t.asks (s.wants o) s.clock).1}) ht rfl).same rfl rfl rfl rfl
   ·exact h.keep ht rfl
def qW.publish (h:qW P s) (p:Int) (N:0<=p/\p<3) (d: ∀k,qm s.strs (p,k)=ϋ):qW P {s with strs:=qB (qB (qB s.strs (p,0) (ub s.cfg)) (p,1) (ub s.cfg)) (p,2) (ub s.cfg)}:=by
 have G: ∀k,0<=k/\k<3->(p,k)∈orgs:=λk J=>by
  have H:p=0∨p=1∨p=2:=by omega
  have I:k=0∨k=1∨k=2:=by omega
  rcases H with rfl | rfl | rfl<;>rcases I with rfl | rfl | rfl<;>decide
 refine(((h.strNew (G 0 ζ) (d 0) (t':=ub s.cfg) rfl).strNew (G 1 ζ) ?_ (t':=ub s.cfg) rfl).strNew (G 2 ζ) ?_ (t':=ub s.cfg) rfl).same rfl rfl rfl rfl
 ·show qm (qB s.strs (p,0) _) _=ϋ;rw[kg _ _ (λe=>by have:=ϰ Prod.snd e;simp at this)];exact d 1
 ·show qm (qB (qB s.strs (p,0) _) (p,1) _) _=ϋ;rw[kg _ _ (λe=>by have:=ϰ Prod.snd e;simp at this),kg _ _ (λe=>by have:=ϰ Prod.snd e;simp at this)];exact d 2
def qW.join (h:qW P s) (J:x∈subIds) (G:qm s.lanes x=ϋ) (H:1<=l.room) (hi:xW l=[]):qW P {s with lanes:=qB s.lanes x l}:=
 h.endL x (L:=qB s.lanes x l) (b:=s.book) (λy N=>kg _ _ N) (λm d=>by
  rw[xq] at d;injection d with e
  subst e;exact⟨J,H,hi⟩) (λ_ _ _=>rfl) (λi e=>by
  obtain⟨O,a,_⟩:=h.src x i e;rw[G] at a
  cases a) (λi v I=>⟨v,I⟩)
def qW.leave (h:qW P s) (x:Int):qW P {s with lanes:=Y3 s.lanes x,book:=vW s.book x 7}:=
 h.endL x (L:=Y3 s.lanes x) (b:=vW s.book x 7) (λy d=>by rw[ul,ώ d]) (λm G=>by
  rw[ul,ϒ rfl] at G
  cases G) (λy i d=>gR _ i 7 d) (λi=>KM _ x i ζ) (λi v H=>KL _ x i 7 v H)
def Zp (l:LnS) (k:Int):xW (jA l k).1=xW l/\(jA l k).1.room=l.room/\(jA l k).1.gone=l.gone/\(l.wanted=ό->(jA l k).1.wanted=ό):=by
 unfold jA;split
 ·exact⟨rfl,rfl,rfl,λe=>e⟩
 ·split
  ·exact⟨rfl,rfl,rfl,λe=>e⟩
  ·exact⟨rfl,rfl,rfl,λ_=>rfl⟩
def qW.wantL (h:qW P s) (J:qm s.lanes x=ϊ l) (k:Int):qW P {s with lanes:=qB s.lanes x (jA l k).1}:=by
 obtain⟨d,G,H,I⟩:=Zp l k;exact h.lane J [] 1 ζ (by rw[d,Ω]) G H I
def kq [DecidableEq K] {k:K} (v:V): ∀{m:List (K×V)},(qm m k).isSome=ό->(qB m k v).length=m.length
 | [],h=>by simp[qm] at h
 | (a,b)::l,h=>by
  unfold qB;unfold qm at h;by_cases e:k=a
  ·rw[ϒ e];rfl
  ·rw[ώ e] at h ⊢;rw[Ϙ,kq v h,Ϙ]
def Js [DecidableEq K] (k:K) (v:V): ∀(m:List (K×V)),(qB m k v).length<=m.length+1
 | []=>by simp[qB]
 | (a,b)::l=>by
  unfold qB;split
  ·simp
  ·have:=Js k v l;simp only[Ϙ];omega
def xE [DecidableEq K] (g:V->α) {m:List (K×V)} {k:K} {u v:V} (h:qm m k=ϊ u) (e:g v=g u) (x:K):(qm (qB m k v) x).map g=(qm m x).map g:=by
 rw[qE];by_cases c:x=k
 ·rw[ϒ c,c,h];exact ϰ ϊ e
 ·rw[ώ c]
def zS (b:Bk) (x id f:Int):(jn b x id f).length=b.length:=by
 unfold jn zF
 repeat' split
 all_goals first | rfl | exact kq _ (by assumption)
def QT (x f:Int): ∀(E:List Int) (b:Bk),(E.foldl (λb id=>jn b x id f) b).length=b.length
 | [],_=>rfl
 | id::E,b=>by rw[B6,QT x f E,zS]
def kC (id f:Int): ∀(E:List Int) (b:Bk),(xV b E id f).length=b.length
 | [],_=>rfl
 | x::E,b=>by
  have:=kC id f E (jn b x id f);unfold xV at this ⊢;rw[B6,this,zS]
structure Loc (s s':RmS):Prop where
 cfg:s'.cfg=s.cfg
 closed:s'.closed=s.closed
 ret:s'.ret=s.ret
 clock:s'.clock=s.clock
 queue:s'.queue=s.queue
 tab:s'.tab=s.tab
 pks:s'.pks=s.pks
 reqs:s'.reqs=s.reqs
 cnt:s'.cnt=s.cnt
 book:s'.book.length=s.book.length
 lanes: ∀x,(qm s'.lanes x).map (λl=>(l.gone,l.wanted,l.W))=(qm s.lanes x).map λl=>(l.gone,l.wanted,l.W)
 strs: ∀o,(qm s'.strs o).map (λt=>(t.any,t.great,t.asks))=(qm s.strs o).map λt=>(t.any,t.great,t.asks)
def Loc.refl (s:RmS):Loc s s:=⟨rfl,rfl,rfl,rfl,rfl,rfl,rfl,rfl,rfl,rfl,λ_=>rfl,λ_=>rfl⟩
def Loc.trans {s'':RmS} (h:Loc s s') (k:Loc s' s''):Loc s s'':=
 ⟨k.cfg.trans h.cfg,k.closed.trans h.closed,k.ret.trans h.ret,k.clock.trans h.clock,k.queue.trans h.queue,k.tab.trans h.tab,k.pks.trans h.pks,k.reqs.trans h.reqs,k.cnt.trans h.cnt,k.book.trans h.book,λx=>(k.lanes x).trans (h.lanes x),λo=>(k.strs o).trans (h.strs o)⟩
def yt (d: ∀s x,Loc s (f s x)): ∀(L:List α) (s:RmS),Loc s (L.foldl f s)
 | [],s=>Loc.refl s
 | x::L,s=>(d s x).trans (yt d L (f s x))
def Dh (s:RmS) (x:Int):Loc s (s.tell1 x):=by
 unfold RmS.tell1;cases qm s.tab.u x with
 | none=>exact Loc.refl s
 | some sb=>
  simp only;split
  ·cases qm s.lanes x with
   | none=>exact Loc.refl s
   | some l=>
    simp only;split
    ·cases ht:qm s.strs (sb.2.2,l.cur) with
     | none=>exact Loc.refl s
     | some t=>exact⟨rfl,rfl,rfl,rfl,rfl,rfl,rfl,rfl,rfl,rfl,λ_=>rfl,xE _ ht rfl⟩
    ·exact Loc.refl s
  ·exact Loc.refl s
def wQ (L:List Int) (s:RmS):Loc s (L.foldl RmS.tellS s):=yt (λs _=>yt Dh _ s) L s
def Yo (l:LnS) (d:ItS):((jL l d).1.gone,(jL l d).1.wanted,(jL l d).1.W)=(l.gone,l.wanted,l.W):=by
 unfold jL vf
 repeat' split
 all_goals rfl
def Et (d:ItS) (s:RmS) (x:Int):Loc s (s.put1 d x):=by
 unfold RmS.put1;split
 ·cases hl:qm s.lanes x with
  | none=>exact Loc.refl s
  | some l=>
   simp only;split
   ·exact⟨rfl,rfl,rfl,rfl,rfl,rfl,rfl,rfl,rfl,zS _ _ _ _,xE _ hl (Yo l d),λ_=>rfl⟩
   ·exact⟨rfl,rfl,rfl,rfl,rfl,rfl,rfl,rfl,rfl,rfl,xE _ hl (Yo l d),λ_=>rfl⟩
 ·exact Loc.refl s
def zd (s:RmS):Loc s s.order:=by
 unfold RmS.order;cases s.ready with
 | none=>exact Loc.refl s
 | some o=>
  simp only;cases ht:qm s.strs o with
  | none=>exact Loc.refl s
  | some t=>
   have h:Loc s {s with strs:=qB s.strs o {t with buf:=(zP t.buf s.clock).1}}:=⟨rfl,rfl,rfl,rfl,rfl,rfl,rfl,rfl,rfl,rfl,λ_=>rfl,xE _ ht rfl⟩;exact h.trans (yt (Et _) _ _)
def xv (s:RmS) (x:Int):Loc s (s.choose x):=by
 unfold RmS.choose;cases hl:qm s.lanes x with
 | none=>exact Loc.refl s
 | some l=>
  refine⟨rfl,rfl,rfl,rfl,rfl,rfl,rfl,rfl,rfl, ?_,xE _ hl ?_,λ_=>rfl⟩
  ·simp only;split
   ·exact zS _ _ _ _
   ·rfl
  ·rcases xX l with ⟨_,e⟩ | ⟨_,x,A,_,_,e⟩<;>rw[e]
def j6 (s:RmS) (x:Int):Loc s (s.rewrite x):=by
 unfold RmS.rewrite;cases hl:qm s.lanes x with
 | none=>exact Loc.refl s
 | some l=>
  refine⟨rfl,rfl,rfl,rfl,rfl,rfl,rfl,rfl,rfl, ?_,xE _ hl ?_,λ_=>rfl⟩
  ·simp only;split
   ·exact zS _ _ _ _
   ·rfl
  ·rcases zj l with ⟨_,e⟩ | ⟨x,f,B,_,e⟩<;>rw[e]
def gT (s:RmS) (w:Og):Loc s (s.drainL w):=by
 unfold RmS.drainL;cases hl:qm s.lanes w.2 with
 | none=>exact Loc.refl s
 | some l=>exact⟨rfl,rfl,rfl,rfl,rfl,rfl,rfl,rfl,rfl,QT _ _ _ _,xE _ hl rfl,λ_=>rfl⟩
def gS (s:RmS) (o:Og):Loc s (s.drainO o):=by
 unfold RmS.drainO;cases ht:qm s.strs o with
 | none=>exact Loc.refl s
 | some t=>
  have h:Loc s {s with strs:=qB s.strs o {t with buf:=kA t.buf}}:=⟨rfl,rfl,rfl,rfl,rfl,rfl,rfl,rfl,rfl,rfl,λ_=>rfl,xE _ ht rfl⟩;exact h.trans (yt (f:=RmS.drain1) (λs i=>⟨rfl,rfl,rfl,rfl,rfl,rfl,rfl,rfl,rfl,(kC i 8 subIds s.book:(xV s.book subIds i 8).length=s.book.length),λ_=>rfl,λ_=>rfl⟩) _ _)
def uY {β:Type} {f:α->β} (h:a.map f=b.map f) {x:α} (d:a=ϊ x): ∃y,b=ϊ y/\f x=f y:=by
 rw[d] at h;cases b with
 | none=>cases h
 | some y=>exact⟨y,rfl,by injection h⟩
def vR {β:Type} {f:α->β} (h:a.map f=b.map f):a.isSome=b.isSome:=by
 have:=ϰ Option.isSome h
 simpa using this
structure Y6 (s:RmS):Prop where
 keys: ∀x,(qm s.tab.u x).isSome=ό->0<=x/\x<6
 lane: ∀x,(qm s.tab.u x).isSome=(qm s.lanes x).isSome
 act:BJ s
 pub: ∀x sb,qm s.tab.u x=ϊ sb->sb.2.1=ό->(qm s.tab.s (sb.2.2,0)).isSome=ό
 str: ∀p n,je n=ό->(qm s.strs (p,n)).isSome=(qm s.tab.s (p,0)).isSome
 org: ∀x o,qm s.tab.o x=ϊ o->(qm s.strs o).isSome=ό
 src: ∀o v,qm s.tab.s o=ϊ v->0<=v/\v<=4294967295
def Y6.loc (h:Y6 s) (d:s'.tab=s.tab) (I: ∀x,(qm s'.lanes x).map (λl=>(l.gone,l.wanted))=(qm s.lanes x).map λl=>(l.gone,l.wanted)) (J: ∀o,(qm s'.strs o).isSome=(qm s.strs o).isSome):Y6 s':=by
 refine⟨by rw[d];exact h.keys,λx=>by rw[d,vR (I x)];exact h.lane x,λx U G N=> ?_,by rw[d];exact h.pub,λp n O=>by rw[d,J];exact h.str p n O,λx o H=>by rw[d] at H;rw[J];exact h.org x o H,by rw[d];exact h.src⟩;rw[d] at G;obtain⟨l,a,b,c⟩:=h.act x U G N;obtain⟨l',a',e⟩:=uY (I x).symm a;simp only[C7] at e;exact⟨l',a',by rw[<-e.1];exact b,by rw[<-e.2];exact c⟩
def Loc.tb (h:Loc s s') (k:Y6 s):Y6 s':=
 k.loc h.tab (λx=>by have:=ϰ (Option.map λp:Bool×Bool×List (Int×List Int)=>(p.1,p.2.1)) (h.lanes x);rw[X1,X1] at this;exact this) (λo=>vR (h.strs o))
structure XS (n:Nat) (s:RmS):Prop where
 cfg:yb s.cfg=ό
 malf:0<=s.cnt.malf/\s.cnt.malf<=n
 told:0<=s.cnt.told/\s.cnt.told<=n
 strange:0<=s.cnt.strange/\s.cnt.strange<=n
 acc:s.cnt.acc=s.pks.length
 lost:0<=s.cnt.lost/\s.cnt.lost<=9* n
 pks:s.pks.length<=n
 clock:0<=s.clock/\s.clock<=n
 great: ∀o t,qm s.strs o=ϊ t->t.any=ό->65536<=t.great/\t.great<=65536* (n+2)
 asks: ∀o t,qm s.strs o=ϊ t->0<=t.asks.tries/\t.asks.tries<=9* n/\0<=t.asks.last/\t.asks.last<=n
 queue: ∀b∈s.queue,Byt b/\b.length<=400
 fit:(s.queue.length:Int)<=s.cfg.room
 pkok: ∀a∈s.pks,ud a.pk/\gG a.pk/\jD a.pk=ό
 few:s.tab.u.length<=n
 wr: ∀x l,qm s.lanes x=ϊ l->l.W.length<=n
 book:s.book.length<=6* n
 reqs:s.reqs.length<=9* n
def XS.up (h:XS n s):XS (n+1) s:=by
 obtain⟨d,ac,ad,ae,O,af,ag,ah,U,G,H,I,J,Y,N,aa,ab⟩:=h;exact⟨d,τ,τ,τ,O,τ,τ,τ,λo t a b=>by have:=U o t a b;omega,λo t a=>by have:=G o t a;omega,H,I,J,τ,λx l a=>by have:=N x l a;omega,τ,τ⟩
def Loc.num (h:Loc s s') (k:XS n s):XS n s':=by
 obtain⟨d,aa,ab,ac,ad,ae,af,ag,ah,G,H,I,J,N,O,U,Y⟩:=k;refine⟨by rw[h.cfg];exact d,by rw[h.cnt];exact aa,by rw[h.cnt];exact ab,by rw[h.cnt];exact ac,by rw[h.cnt,h.pks];exact ad,by rw[h.cnt];exact ae,by rw[h.pks];exact af,by rw[h.clock];exact ag,λo t a b=> ?_,λo t a=> ?_,by rw[h.queue];exact H,by rw[h.queue,h.cfg];exact I,by rw[h.pks];exact J,by rw[h.tab];exact N,λx l a=> ?_,by rw[h.book];exact U,by rw[h.reqs];exact Y⟩
 ·obtain⟨t',e,f⟩:=uY (h.strs o) a;simp only[C7] at f;rw[f.2.1];exact ah o t' e (by rw[<-f.1];exact b)
 ·obtain⟨t',e,f⟩:=uY (h.strs o) a;simp only[C7] at f;rw[f.2.2];exact G o t' e
 ·obtain⟨l',e,f⟩:=uY (h.lanes x) a;simp only[C7] at f;rw[f.2.2];exact O x l' e
structure qT (n:Nat) (s:RmS):Prop where
 ow:OwO s
 tb:Y6 s
 num:XS n s
def qT.up (h:qT n s):qT (n+1) s:=⟨h.ow,h.tb,h.num.up⟩
def Loc.ok (h:Loc s s') (k:qT n s) (o:OwO s'):qT n s':=⟨o,h.tb k.tb,h.num k.num⟩
def vN {c:CfR} (h:yb c=ό):(1<=c.room/\c.room<=8)/\gi c.hold c.wait/\(1<=c.space/\c.space<=c.retry/\c.retry<=1000)/\1<=c.most/\c.most<=10:=by
 unfold yb at h;simp only[Φ,C2] at h;exact h
structure Tk (m:Nat) (now:Int) (s s':RmS):Prop where
 cfg:s'.cfg=s.cfg
 queue:s'.queue=s.queue
 tab:s'.tab=s.tab
 pks:s'.pks=s.pks
 cnt:s'.cnt=s.cnt
 book:s'.book=s.book
 lanes:s'.lanes=s.lanes
 clock:s'.clock=s.clock
 reqs:s'.reqs.length<=s.reqs.length+m
 strs: ∀o,(qm s'.strs o).map (λt=>(t.any,t.great))=(qm s.strs o).map λt=>(t.any,t.great)
 asks: ∀o t',qm s'.strs o=ϊ t'-> ∃t,qm s.strs o=ϊ t/\((0<=t.asks.tries->0<=t'.asks.tries)/\t'.asks.tries<=(if 0<=t.asks.tries then t.asks.tries else 0)+m/\(t'.asks.last=t.asks.last∨t'.asks.last=now))
def CH (s:RmS) (o:Og):Tk 1 s.clock s (s.tick1 o):=by
 have d:Tk 1 s.clock s s:=⟨rfl,rfl,rfl,rfl,rfl,rfl,rfl,rfl,τ,λ_=>rfl,λo t' h=>⟨t',h,λe=>e,by split<;>omega,ϐ rfl⟩⟩;unfold RmS.tick1;cases ht:qm s.strs o with
 | none=>exact d
 | some t=>
  simp only;have key: ∀o2 t',qm (qB s.strs o {t with asks:=(vY s.cfg.space s.cfg.retry t.asks (s.wants o) s.clock).1}) o2=ϊ t'-> ∃t,qm s.strs o2=ϊ t/\((0<=t.asks.tries->0<=t'.asks.tries)/\t'.asks.tries<=(if 0<=t.asks.tries then t.asks.tries else 0)+1/\(t'.asks.last=t.asks.last∨t'.asks.last=s.clock)):=by
   intro o2 t' h;rw[qE] at h;split at h
   ·rename_i e;injection h with e2
    subst e e2;refine⟨t,ht, ?_⟩;simp only;unfold vY uS;split
    ·refine⟨λe=> ?_, ?_,ϐ rfl⟩
     ·simp only;split<;>omega
     ·simp only;split<;>split<;>omega
    ·refine⟨λe=> ?_, ?_,ϓ rfl⟩
     ·simp only;split<;>omega
     ·simp only;split<;>split<;>omega
   ·exact⟨t',h,λe=>e,by split<;>omega,ϐ rfl⟩
  split
  ·exact⟨rfl,rfl,rfl,rfl,rfl,rfl,rfl,rfl,by unfold RmS.request;simp,xE _ ht rfl,key⟩
  ·exact⟨rfl,rfl,rfl,rfl,rfl,rfl,rfl,rfl,η,xE _ ht rfl,key⟩
def kM: ∀(L:List Og) (s:RmS),Tk L.length s.clock s (L.foldl RmS.tick1 s)
 | [],s=>⟨rfl,rfl,rfl,rfl,rfl,rfl,rfl,rfl,η,λ_=>rfl,λo t' h=>⟨t',h,λe=>e,by split<;>omega,ϐ rfl⟩⟩
 | o::L,s=>by
  rw[B6];have h:=CH s o;have k:=kM L (s.tick1 o);rw[h.clock] at k;refine⟨k.cfg.trans h.cfg,k.queue.trans h.queue,k.tab.trans h.tab,k.pks.trans h.pks,k.cnt.trans h.cnt,k.book.trans h.book,k.lanes.trans h.lanes,by rw[k.clock,h.clock], ?_,λo=>(k.strs o).trans (h.strs o),λo2 t' O=> ?_⟩
  ·have:=k.reqs;have:=h.reqs;rw[Ϙ];omega
  ·obtain⟨t1,G,I,c1,d⟩:=k.asks o2 t' O;obtain⟨t0,a0,H,J,N⟩:=h.asks o2 t1 G;refine⟨t0,a0,λe=>I (H e), ?_, ?_⟩
   ·rw[Ϙ];split at c1<;>split at J<;>split<;>omega
   ·rcases d with d | d
    ·rw[d];exact N
    ·exact ϓ d
def Uk (s:RmS):s.origins.length<=9:=ϙ (D2 _ _) ζ
def qT.tick (h:qT n s):qT (n+1) s.tick.1:=by
 have I:=h.ow.tick;unfold RmS.tick at I ⊢;split
 ·exact h.up
 ·rename_i an;rw[ώ an] at I;have k:=kM s.origins {s with clock:=s.clock+1};have az:=Uk s;obtain⟨af,ar,au,av,al,aw,ax,ay,am,ag,ah,ai,aj,ao,ak,ap,aq⟩:=h.num;simp only at k I ⊢;generalize List.foldl RmS.tick1 {s with clock:=s.clock+1} s.origins=s' at *;have J:=k.cfg;have N:=k.queue;have O:=k.tab;have H:=k.pks;have d:=k.cnt;have Y:=k.book;have U:=k.lanes;have aa:=k.clock;have ae:=k.reqs;simp only at J N O H d Y U aa ae;refine⟨I,h.tb.loc O (λx=>by rw[U]) (λo=>vR (k.strs o)),⟨by rw[J];exact af,by rw[d];omega,by rw[d];omega,by rw[d];omega,by rw[d,H];exact al,by rw[d];omega,by rw[H];omega,by rw[aa];omega,λo t a b=> ?_,λo t a=> ?_,by rw[N];exact ah,by rw[J,N];exact ai,by rw[H];exact aj,by rw[O];omega,λx l a=> ?_,by rw[Y];omega,τ⟩⟩
  ·obtain⟨t',e,f⟩:=uY (k.strs o) a;simp only[C7] at f;have:=am o t' e (by rw[<-f.1];exact b);rw[f.2];omega
  ·obtain⟨t0,a0,ac,ad,G⟩:=k.asks o t a;obtain⟨ab,aA,aB,aC⟩:=ag o t0 a0;rw[ϒ ab] at ad;refine⟨ac ab,τ, ?_⟩;rcases G with G | G<;>rw[G]<;>omega
  ·rw[U] at a;have:=ak x l a;omega
def qT.order (h:qT n s):qT n s.order:=(zd s).ok h (qW.order h.ow λa d=>(h.num.pkok a d).2.2)
def qT.choose (h:qT n s) (x:Int):qT n (s.choose x):=(xv s x).ok h (h.ow.choose x)
def qT.rewrite (h:qT n s) (x:Int):qT n (s.rewrite x):=(j6 s x).ok h (h.ow.rewrite x)
def MY (d sq:Int):d-32768<=PH d sq/\PH d sq<=d+32767:=by
 unfold PH ahd;omega
def Pj {t:zX} {sq:Int} (d:0<=sq/\sq<=65535) (h:t.any=ό->65536<=t.great/\t.great<=65536* (n+2)):32768<=yJ t sq/\yJ t sq<=65536* ((n+1:Nat)+2)/\(t.any=ύ->65536<=yJ t sq):=by
 unfold yJ;cases ha:t.any with
 | true=>
  have:=h ha;have:=MY t.great sq;simp only[Ψ];refine⟨τ,τ,λe=>(by cases e)⟩
 | false=>
  simp only[Ϭ,C4];refine⟨τ,τ,λ_=>by omega⟩
def Kk (id:Int): ∀(L:List Int) (b:Bk),(Xh b L id).length<=b.length+L.length
 | [],b=>by simp[Xh]
 | x::L,b=>by
  have h:=Kk id L (kE b (x,id)).1;have d:(kE b (x,id)).1.length<=b.length+1:=by
   unfold kE
   repeat' split
   all_goals first | exact Js _ _ _ | exact K4 _
  unfold Xh at h ⊢;rw[B6,Ϙ];omega
def qT.accept (h:qT n s) (o:Og) (p:Pk) (J:ud p/\gG p/\jD p=ό/\0<=p.sq/\p.sq<=65535):qT (n+1) (s.accept o p):=by
 have I:=qW.accept h.ow h.tb.act o p;unfold RmS.accept at I ⊢;cases ht:qm s.strs o with
 | none=>exact h.up
 | some t=>
  rw[ht] at I;simp only at I ⊢;obtain⟨U,ag,ah,ai,aj,ak,al,am,H,N,Y,aa,ab,ad,ac,ae,af⟩:=h.num;refine⟨I,h.tb.loc rfl (λx=>rfl) (λo2=> ?_),⟨U,by simp only;omega,by simp only;omega,by simp only;omega, ?_,by simp only;omega, ?_,by simp only;omega,λo2 t2 a b=> ?_,λo2 t2 a=> ?_,Y,aa,λa d=> ?_,by simp only;omega,λx l a=> ?_, ?_,by simp only;omega⟩⟩
  ·simp only;rw[qE];split
   ·rename_i e;rw[e,ht];rfl
   ·rfl
  ·simp only[Ϗ,Ϙ,ϱ];omega
  ·simp only[Ϗ,Ϙ,ϱ];omega
  ·simp only at a;rw[qE] at a;split at a
   ·injection a with e
    subst e;have O:=Pj (n:=n) J.2.2.2 (H o t ht);unfold YZ;simp only;split
    ·rename_i G;rcases G with G | G
     ·have:=O.2.2 G;omega
     ·cases d:t.any with
      | true=>have:=H o t ht d;omega
      | false=>have:=O.2.2 d;omega
    ·rename_i G;cases d:t.any with
     | true=>have:=H o t ht d;omega
     | false=>exact ϧ (ϐ d) G
   ·have:=H o2 t2 a b;omega
  ·simp only at a;rw[qE] at a;split at a
   ·injection a with e
    subst e;have:=N o t ht;unfold YZ;simp only;omega
   ·have:=N o2 t2 a;omega
  ·rcases ϥ.1 d with d | d
   ·exact ab a d
   ·rw[Γ] at d;subst d;exact⟨J.1,J.2.1,J.2.2.1⟩
  ·have:=ac x l a;omega
  ·have an:(prR (jH o.1) s.tab.u).length<=6:=by unfold prR;exact ϙ (D2 _ _) ζ
   have:=Kk s.pks.length (prR (jH o.1) s.tab.u) s.book;simp only;split
   ·omega
   ·rw[kC];omega
def qT.read (h:qT n s):qT (n+1) s.read:=by
 have d:=qW.read h.ow h.tb.act;unfold RmS.read at d ⊢;cases hq:s.queue with
 | nil=>exact h.up
 | cons b q=>
  rw[hq] at d;simp only at d ⊢;obtain⟨am,av,aw,ax,ay,az,aA,aB,aC,an,J,N,ao,ap,aq,ar,au⟩:=h.num;have aD:=J b (by rw[hq];exact ϣ);have O:qT n {s with queue:=q}:=⟨h.ow.same rfl rfl rfl rfl,h.tb.loc rfl (λ_=>rfl) (λ_=>rfl),⟨am,av,aw,ax,ay,az,aA,aB,aC,an,λc H=>J c (by rw[hq];exact Ϧ _ H),by rw[hq] at N;simp only[Ϙ] at N ⊢;omega,ao,ap,aq,ar,au⟩⟩;have G: ∀c:CnR,c.acc=s.cnt.acc->c.lost=s.cnt.lost->(0<=c.malf/\c.malf<=n+1)->(0<=c.told/\c.told<=n+1)->(0<=c.strange/\c.strange<=n+1)->qT (n+1) {s with queue:=q,cnt:=c}:=by
   intro c c1 c2 c3 c4 c5;obtain⟨U,aE,aF,aG,ah,ai,aj,ak,al,Y,aa,ab,ac,ad,ae,af,ag⟩:=O.up.num;exact⟨h.ow.same rfl rfl rfl rfl,h.tb.loc rfl (λ_=>rfl) (λ_=>rfl),⟨U,c3,c4,c5,by simp only;rw[c1];exact ah,by simp only;rw[c2];exact ai,aj,ak,al,Y,aa,ab,ac,ad,ae,af,ag⟩⟩
  split
  ·rename_i H;rw[ϒ H] at d;unfold RmS.tell at d ⊢;split
   ·rename_i I;rw[ϒ I] at d;exact(wQ _ _).ok (G {s.cnt with told:=s.cnt.told+1} rfl rfl (by simp only;omega) (by simp only;omega) (by simp only;omega)) d
   ·exact G {s.cnt with malf:=s.cnt.malf+1} rfl rfl (by simp only;omega) (by simp only;omega) (by simp only;omega)
  ·unfold RmS.media;split
   ·rename_i I;cases qm s.tab.o (jS b).1.sc with
    | none=>exact G {s.cnt with strange:=s.cnt.strange+1} rfl rfl (by simp only;omega) (by simp only;omega) (by simp only;omega)
    | some o=>exact O.accept o _ (Ep aD.1 I)
   ·exact G {s.cnt with malf:=s.cnt.malf+1} rfl rfl (by simp only;omega) (by simp only;omega) (by simp only;omega)
def qT.write (h:qT n s) (x:Int) (acc:Bool):qT (n+1) (s.write x acc):=by
 have G:=h.ow.write x acc;unfold RmS.write at G ⊢;cases hl:qm s.lanes x with
 | none=>exact h.up
 | some l=>
  rw[hl] at G;simp only at G ⊢;obtain⟨aE,aL,aM,aN,aO,aP,aQ,aR,aS,aF,aG,aH,aI,J,O,aJ,aK⟩:=h.num;have U: ∀c:Bool,(if c then jn s.book x (qJ l acc).2.1 (qJ l acc).2.2.1 else s.book).length=s.book.length:=by
   intro c;cases c
   ·rfl
   ·exact zS _ _ _ _
  have ax:=h.ow.sub x l hl;have aT:(qJ l acc).1.W.length<=l.W.length+1:=by
   rcases zc l acc with ⟨_,e⟩ | ⟨o,C,ar,⟨H,e⟩ | ⟨_,_,H,e⟩⟩
   ·rw[e];simp
   ·rw[e];simp only;split
    ·simp
    ·omega
   ·rw[e];simp
  have aw:(qJ l acc).1.wanted=l.wanted:=by
   rcases zc l acc with ⟨_,e⟩ | ⟨o,C,ar,⟨H,e⟩ | ⟨_,_,H,e⟩⟩<;>rw[e]
  have au:(∀y,(qm (zl s.tab x).1.u y).isSome=(qm s.tab.u y).isSome)/\(zl s.tab x).1.o=s.tab.o/\(zl s.tab x).1.s=s.tab.s/\(∀y d,qm (zl s.tab x).1.u y=ϊ d->d.2.1=ό->y≠x/\qm s.tab.u y=ϊ d)/\(zl s.tab x).1.u.length<=n:=by
   unfold zl;rw[ϒ (subIds_iff.1 ax.1)];split
   ·rename_i I;refine⟨λy=> ?_,rfl,rfl,λy d a b=> ?_, ?_⟩
    ·simp only;rw[qE];split
     ·rename_i e;rw[e];exact I.1.symm
     ·rfl
    ·simp only at a;rw[qE] at a;split at a
     ·injection a with e
      rw[<-e] at b;cases b
     ·rename_i e;exact⟨e,a⟩
    ·simp only;rw[kq _ I.1];exact J
   ·rename_i I;refine⟨λy=>rfl,rfl,rfl,λy d a b=>⟨λe=> ?_,a⟩,J⟩;rw[e] at a;exact I ⟨by rw[a];rfl,by rw[a];exact b⟩
  have Y: ∀(T:TS) (b:Bk),T.u.length<=n->b.length=s.book.length->XS (n+1) {s with lanes:=qB s.lanes x (qJ l acc).1,tab:=T,book:=b}:=by
   intro T b aU H;obtain⟨ad,aj,ak,al,am,an,ao,ap,aq,ae,af,ag,ah,aB,aC,aD,ai⟩:=h.num.up;refine⟨ad,aj,ak,al,am,an,ao,ap,aq,ae,af,ag,ah,by simp only;omega,λy m a=> ?_,by simp only;omega,ai⟩;simp only at a;rw[qE] at a;split at a
   ·injection a with e
    subst e;have:=O x l hl;omega
   ·have:=O y m a;omega
  cases hg:(qJ l acc).1.gone with
  | true=>
   rw[hg] at G;simp only[Ψ] at G ⊢;obtain⟨aa,az,N,ab,aA⟩:=au;refine⟨G,⟨λy ay=>h.tb.keys y (by rw[<-aa];exact ay),λy=> ?_,λy d a b=> ?_,λy d a b=> ?_,λp m av=> ?_,λy o a=> ?_,by simp only;rw[N];exact h.tb.src⟩,Y _ _ aA (by rw[show ∀(m:Bk) a f,(vW m a f).length=m.length from λm a f=>by simp[vW],U])⟩
   ·simp only;rw[aa,h.tb.lane,qE];split
    ·rename_i e;rw[e,hl];rfl
    ·rfl
   ·obtain⟨e,ac⟩:=ab y d a b;obtain⟨m,c1,c2,c3⟩:=h.tb.act y d ac b;exact⟨m,by simp only;rw[qE,ώ e];exact c1,c2,c3⟩
   ·simp only;rw[N];exact h.tb.pub y d (ab y d a b).2 b
   ·simp only;rw[N];exact h.tb.str p m av
   ·simp only at a ⊢;rw[az] at a;exact h.tb.org y o a
  | false=>
   rw[hg] at G;simp only[Ϭ,C4] at G ⊢;refine⟨G,⟨h.tb.keys,λy=> ?_,λy d a b=> ?_,h.tb.pub,h.tb.str,h.tb.org,h.tb.src⟩,Y s.tab _ J (U _)⟩
   ·simp only;rw[h.tb.lane,qE];split
    ·rename_i e;rw[e,hl];rfl
    ·rfl
   ·obtain⟨m,c1,c2,c3⟩:=h.tb.act y d a b;by_cases e:y=x
    ·subst e;rw[hl] at c1;injection c1 with e2
     subst e2;exact⟨(qJ l acc).1,by simp only;rw[qE,ϒ rfl],hg,by rw[aw];exact c3⟩
    ·exact⟨m,by simp only;rw[qE,ώ e];exact c1,c2,c3⟩
def qT.ret (h:qT n s) (r:List (Og×Bool)):qT n {s with ret:=r}:=by
 obtain⟨d,aa,ab,ac,ad,ae,af,ag,ah,G,H,I,J,N,O,U,Y⟩:=h.num;exact⟨h.ow.same rfl rfl rfl rfl,h.tb.loc rfl (λ_=>rfl) (λ_=>rfl),⟨d,aa,ab,ac,ad,ae,af,ag,ah,G,H,I,J,N,O,U,Y⟩⟩
def qT.drain (h:qT n s) (w:Og):qT (n+1) (s.drain w):=by
 unfold RmS.drain;split
 ·obtain⟨af,au,av,aw,ax,ay,az,aA,aB,ak,al,am,an,ao,ap,aq,ar⟩:=h.num;have aC:=(vN af).1;obtain⟨d,U,Y,aa,ab,aj,ac,ad,ae,G,ah,ai,H,I,J,N,O⟩:=h.num.up;exact⟨h.ow.same rfl rfl rfl rfl,h.tb.loc rfl (λ_=>rfl) (λ_=>rfl),⟨d,U,Y,aa,ab,by simp only;omega,ac,ad,ae,G,λb ag=>by simp at ag,by simp only[ϱ];omega,H,I,J,N,O⟩⟩
 ·split
  ·exact(yt gS _ s).ok h.up (qW.drainOs _ h.ow)
  ·exact(gT s w).ok h.up (h.ow.drainL w)
def qT.endW (h:qT n s) (w:Og):qT (n+1) (s.endW w):=by
 unfold RmS.endW;split
 ·exact(h.drain w).ret _
 ·exact h.drain w
def qT.stepW (h:qT n s) (w:Og) (acc:Bool):qT (n+1) (s.stepW w acc):=by
 unfold RmS.stepW;split
 ·exact h.endW w
 ·split
  ·exact h.read
  ·split
   ·exact h.order.up
   ·split
    ·exact(h.choose w.2).up
    ·split
     ·exact(h.rewrite w.2).up
     ·exact h.write w.2 acc
def qT.pick (h:qT n s) (w:Og) (acc:Bool):qT (n+1) (s.pick w acc).1:=by
 unfold RmS.pick;split
 ·exact h.stepW w acc
 ·exact h.up
def qT.publish (h:qT n s) (p s0 s1 s2:Int) (I: ∀v∈[s0,s1,s2],0<=v/\v<=4294967295):qT (n+1) (s.publish p s0 s1 s2).1:=by
 unfold RmS.publish;split
 ·exact h.up
 ·split
  ·rename_i av;simp only;have G:=av;unfold yv at G;split at G
   ·rename_i N;split at G
    ·simp at G
    ·rename_i ap;split at G
     ·simp at G
     ·rename_i O;split at G
      ·simp at G
      ·rename_i ar;have e:(yv s.tab p s0 s1 s2).1={s.tab with o:=qB (qB (qB s.tab.o s0 (p,0)) s1 (p,1)) s2 (p,2),s:=qB (qB (qB s.tab.s (p,0) s0) (p,1) s1) (p,2) s2}:=by
        unfold yv;rw[ϒ N,ώ ap,ώ O,ώ ar];rfl
       rw[e];have au: ∀k,qm s.strs (p,k)=ϋ:=λk=>by
        cases H:qm s.strs (p,k) with
        | none=>rfl
        | some t=>
         have:=h.tb.str p k (Zy (h.ow.org _ t H));rw[H] at this;exact ϧ this.symm O
       have key: ∀(o:Og) {α:Type} {m:List (Og×α)} {a b c:α},(qm (qB (qB (qB m (p,0) a) (p,1) b) (p,2) c) o).isSome=((decide (o=(p,2))||(decide (o=(p,1))||decide (o=(p,0))))||(qm m o).isSome):=by
        intro o α m a b c;rw[qE,qE,qE];by_cases c2:o=(p,2)
        ·rw[ϒ c2,Ϩ c2];rfl
        ·rw[ώ c2,Ϯ c2];by_cases c1:o=(p,1)
         ·rw[ϒ c1,Ϩ c1];rfl
         ·rw[ώ c1,Ϯ c1];by_cases c0:o=(p,0)
          ·rw[ϒ c0,Ϩ c0];rfl
          ·rw[ώ c0,Ϯ c0];rfl
       have J: ∀o t,qm (qB (qB (qB s.strs (p,0) (ub s.cfg)) (p,1) (ub s.cfg)) (p,2) (ub s.cfg)) o=ϊ t->t=ub s.cfg∨qm s.strs o=ϊ t:=by
        intro o t a;rw[qE] at a;split at a
        ·injection a with e;exact ϐ e.symm
        ·rw[qE] at a;split at a
         ·injection a with e;exact ϐ e.symm
         ·rw[qE] at a;split at a
          ·injection a with e;exact ϐ e.symm
          ·exact ϓ a
       obtain⟨U,ah,ai,aj,ak,al,am,an,ao,Y,aa,ab,ac,ad,ae,af,ag⟩:=h.num.up;refine⟨(qW.publish h.ow p N au).same rfl rfl rfl rfl,⟨h.tb.keys,h.tb.lane,h.tb.act,λx aw a b=> ?_,λp2 k H=> ?_,λx o a=> ?_,λo v a=> ?_⟩,⟨U,ah,ai,aj,ak,al,am,an,λo t a b=> ?_,λo t a=> ?_,aa,ab,ac,ad,ae,af,ag⟩⟩
       ·simp only;rw[key,h.tb.pub x aw a b,Bool.or_true]
       ·simp only;rw[key,key];by_cases e2:p2=p
        ·subst e2;have aq:k=0∨k=1∨k=2:=by
          have:=Ϛ H;omega
         rcases aq with rfl | rfl | rfl<;>simp
        ·have d: ∀j i:Int,decide ((p2,j)=(p,i))=ύ:=λj i=>Ϯ λc=>e2 (ϰ Prod.fst c)
         rw[d,d,d,d,d,d,h.tb.str p2 k H]
       ·simp only at a ⊢;rw[key];rw[qE] at a;split at a
        ·injection a with d;rw[<-d];simp
        ·rw[qE] at a;split at a
         ·injection a with d;rw[<-d];simp
         ·rw[qE] at a;split at a
          ·injection a with d;rw[<-d];simp
          ·rw[h.tb.org x o a,Bool.or_true]
       ·simp only at a;rw[qE] at a;split at a
        ·injection a with d;rw[<-d];exact I _ η
        ·rw[qE] at a;split at a
         ·injection a with d;rw[<-d];exact I _ η
         ·rw[qE] at a;split at a
          ·injection a with d;rw[<-d];exact I _ η
          ·exact h.tb.src o v a
       ·rcases J o t a with c | c
        ·rw[c] at b;cases b
        ·exact ao o t c b
       ·rcases J o t a with c | c
        ·rw[c];unfold ub;simp only;omega
        ·exact Y o t c
   ·simp at G
  ·exact h.up
def qT.join (h:qT n s) (x H sq st:Int):qT (n+1) (s.join x H sq st).1:=by
 unfold RmS.join;split
 ·exact h.up
 ·split
  ·rename_i aq;simp only;have G:=aq;unfold zV at G;split at G
   ·rename_i U;split at G
    ·simp at G
    ·rename_i N;have e:(zV s.tab x H).1={s.tab with u:=qB s.tab.u x (H,ύ,0)}:=by
      unfold zV;rw[ϒ U,ώ N]
     rw[e];have O:qm s.tab.u x=ϋ:=by
      cases O:qm s.tab.u x with
      | none=>rfl
      | some v=>rw[O] at N;exact ϧ rfl N
     have J:qm s.lanes x=ϋ:=by
      have:=h.tb.lane x;rw[O] at this;cases J:qm s.lanes x with
      | none=>rfl
      | some l=>rw[J] at this;cases this
     have au:=(vN h.num.cfg).1;have av:=h.num.few;obtain⟨aa,ai,aj,ak,al,am,an,ao,ap,ab,ac,ad,ae,ar,af,ag,ah⟩:=h.num.up;refine⟨(qW.join h.ow (subIds_iff.2 U) J (l:=Y0 s.cfg.room.toNat s.cfg.most H sq st) (by show 1<=s.cfg.room.toNat;omega) rfl).same rfl rfl rfl rfl,⟨λy I=> ?_,λy=> ?_,λy Y a b=> ?_,λy Y a b=> ?_,h.tb.str,h.tb.org,h.tb.src⟩,⟨aa,ai,aj,ak,al,am,an,ao,ap,ab,ac,ad,ae, ?_,λy l a=> ?_,ag,ah⟩⟩
     ·simp only at I;rw[qE] at I;split at I
      ·rename_i d;rw[d];exact U
      ·exact h.tb.keys y I
     ·simp only;rw[qE,qE];split
      ·rfl
      ·exact h.tb.lane y
     ·simp only at a ⊢;rw[qE] at a;split at a
      ·injection a with d
       rw[<-d] at b;cases b
      ·rename_i d;rw[qE,ώ d];exact h.tb.act y Y a b
     ·simp only at a;rw[qE] at a;split at a
      ·injection a with d
       rw[<-d] at b;cases b
      ·exact h.tb.pub y Y a b
     ·have:=Js x (H,ύ,(0:Int)) s.tab.u;simp only;omega
     ·simp only at a;rw[qE] at a;split at a
      ·injection a with d
       subst d;simp[Y0]
      ·exact af y l a
   ·simp at G
  ·exact h.up
def Hn (l:LnS) (k:Int):(jA l k).1.W=l.W:=by
 unfold jA
 repeat' split
 all_goals rfl
def qT.wantL (h:qT n s) (d:qm s.lanes x=ϊ l) (k:Int):qT n {s with lanes:=qB s.lanes x (jA l k).1}:=by
 obtain⟨am,an,aj,ak⟩:=Zp l k;obtain⟨H,ab,ac,ad,ae,af,ag,ah,ai,I,J,N,O,U,G,Y,aa⟩:=h.num;refine⟨qW.wantL h.ow d k,⟨h.tb.keys,λy=> ?_,λy al a b=> ?_,h.tb.pub,h.tb.str,h.tb.org,h.tb.src⟩,⟨H,ab,ac,ad,ae,af,ag,ah,ai,I,J,N,O,U,λy m a=> ?_,Y,aa⟩⟩
 ·simp only;rw[h.tb.lane,qE];split
  ·rename_i e;rw[e,d];rfl
  ·rfl
 ·obtain⟨m,c1,c2,c3⟩:=h.tb.act y al a b;simp only;rw[qE];by_cases e:y=x
  ·subst e;rw[d] at c1;injection c1 with e2
   subst e2;exact⟨_,by rw[ϒ rfl],by rw[aj];exact c2,ak c3⟩
  ·exact⟨m,by rw[ώ e];exact c1,c2,c3⟩
 ·simp only at a;rw[qE] at a;split at a
  ·injection a with e2
   subst e2;rw[Hn];exact G x l d
  ·exact G y m a
def qT.want (h:qT n s) (x k:Int):qT (n+1) (s.want x k).1:=by
 unfold RmS.want;split
 ·exact h.up
 ·split
  ·exact h.up
  ·split
   ·exact h.up
   ·cases hl:qm s.lanes x with
    | none=>exact h.up
    | some l=>exact(h.wantL hl k).up
def qT.subscribe (h:qT n s) (x p k:Int):qT (n+1) (s.subscribe x p k).1:=by
 unfold RmS.subscribe;split
 ·exact h.up
 ·split
  ·exact h.up
  ·rename_i au;split
   ·exact h.up
   ·rename_i I;split
    ·rename_i aw;cases hl:qm s.lanes x with
     | none=>exact h.up
     | some l=>
      simp only;have G:=aw;unfold yI at G;split at G
      ·rename_i Y;split at G
       ·rename_i J;split at G
        ·simp at G
        ·rename_i av;have e:(yI s.tab x p).1={s.tab with u:=qB s.tab.u x (((qm s.tab.u x).getD sb0).1,ό,p)}:=by
          unfold yI;rw[ϒ Y,ϒ J,ώ av]
         rw[e];have U:l.gone=ύ:=by
          unfold Jj at I;rw[hl] at I
          simpa using I
         have O:=h.wantL hl k;have aa:(jA l k).1.wanted=ό/\(jA l k).1.gone=ύ:=by
          unfold jA;rw[ώ au,ώ (by rw[U];decide)];exact⟨rfl,U⟩
         obtain⟨ab,ak,al,am,an,ao,ap,aq,ar,ac,ad,ae,af,ag,ah,ai,aj⟩:=O.num.up;refine⟨O.ow.same rfl rfl rfl rfl,⟨λy H=> ?_,λy=> ?_,λy N a b=> ?_,λy N a b=> ?_,h.tb.str,h.tb.org,h.tb.src⟩,⟨ab,ak,al,am,an,ao,ap,aq,ar,ac,ad,ae,af, ?_,ah,ai,aj⟩⟩
         ·simp only at H;rw[qE] at H;split at H
          ·rename_i d;rw[d];exact Y.1
          ·exact h.tb.keys y H
         ·simp only;rw[qE,qE];split
          ·rfl
          ·exact h.tb.lane y
         ·simp only at a ⊢;rw[qE] at a ⊢;split at a
          ·rename_i d;rw[ϒ d];exact⟨_,rfl,aa.2,aa.1⟩
          ·rename_i d;rw[ώ d];exact h.tb.act y N a b
         ·simp only at a ⊢;rw[qE] at a;split at a
          ·injection a with d
           rw[<-d];exact J.2
          ·exact h.tb.pub y N a b
         ·simp only;rw[kq _ J.1];exact ag
       ·simp at G
      ·simp at G
    ·exact h.up
def YA [DecidableEq K] (k:K): ∀(m:List (K×V)),(yX m k).length<=m.length
 | []=>by simp[yX]
 | (a,b)::l=>by
  unfold yX;split
  ·simp
  ·have:=YA k l;simp only[Ϙ];omega
def qT.leave (h:qT n s) (H:(s.tab.u.map Prod.fst).Nodup) (x:Int):qT (n+1) (s.leave x).1:=by
 unfold RmS.leave;split
 ·exact h.up
 ·split
  ·rename_i ao;simp only;have G:=ao;unfold zb at G;split at G
   ·rename_i an;split at G
    ·rename_i am;have e:(zb s.tab x).1={s.tab with u:=yX s.tab.u x}:=by
      unfold zb;rw[ϒ an,ϒ am]
     rw[e];have aq:=h.num.few;obtain⟨N,ae,af,ag,ah,ai,aj,ak,al,O,U,Y,aa,ap,ab,ac,ad⟩:=h.num.up;refine⟨(qW.leave h.ow x).same rfl rfl rfl rfl,⟨λy d=> ?_,λy=> ?_,λy I a b=> ?_,λy I a b=> ?_,h.tb.str,h.tb.org,h.tb.src⟩,⟨N,ae,af,ag,ah,ai,aj,ak,al,O,U,Y,aa, ?_,λy l a=> ?_, ?_,ad⟩⟩
     ·simp only at d;rw[uk H] at d;split at d
      ·cases d
      ·exact h.tb.keys y d
     ·simp only;rw[uk H,ul];split
      ·rfl
      ·exact h.tb.lane y
     ·simp only at a ⊢;rw[uk H] at a;split at a
      ·cases a
      ·rename_i J;rw[ul,ώ J];exact h.tb.act y I a b
     ·simp only at a;rw[uk H] at a;split at a
      ·cases a
      ·exact h.tb.pub y I a b
     ·have:=YA x s.tab.u;simp only;omega
     ·simp only at a;rw[ul] at a;split at a
      ·cases a
      ·exact ab y l a
     ·simp only;rw[show ∀(m:Bk) a f,(vW m a f).length=m.length from λm a f=>by simp[vW]];exact ac
    ·simp at G
   ·simp at G
  ·exact h.up
def qT.arrive (h:qT n s) {b:List Int} (ah:Byt b) (ai:b.length<=400):qT (n+1) (s.arrive b).1:=by
 have d:=(vN h.num.cfg).1;have am:=h.num.fit;have al:=h.num.lost;obtain⟨G,aa,ab,ac,ad,aj,ae,af,ag,H,I,ak,J,N,O,U,Y⟩:=h.num.up;unfold RmS.arrive;split
 ·exact h.up
 ·split
  ·refine⟨h.ow.same rfl rfl rfl rfl,h.tb.loc rfl (λ_=>rfl) (λ_=>rfl),⟨G,aa,ab,ac,ad,aj,ae,af,ag,H,λc d=> ?_, ?_,J,N,O,U,Y⟩⟩
   ·rcases ϥ.1 d with d | d
    ·exact I c d
    ·rw[Γ] at d;rw[d];exact⟨ah,ai⟩
   ·simp only[Ϗ,Ϙ,ϱ];omega
  ·refine⟨h.ow.same rfl rfl rfl rfl,h.tb.loc rfl (λ_=>rfl) (λ_=>rfl),⟨G,aa,ab,ac,ad,by simp only;omega,ae,af,ag,H,λc d=> ?_, ?_,J,N,O,U,Y⟩⟩
   ·rcases ϥ.1 d with d | d
    ·exact I c (O4 d)
    ·rw[Γ] at d;rw[d];exact⟨ah,ai⟩
   ·simp only[Ϗ,Ϙ,ϱ,F3];omega
def qT.shut (h:qT n s):qT (n+1) s.shut.1:=by
 unfold RmS.shut;split
 ·exact h.up
 ·obtain⟨d,aa,ab,ac,ad,ae,af,ag,ah,G,H,I,J,N,O,U,Y⟩:=h.num.up;exact⟨h.ow.same rfl rfl rfl rfl,h.tb.loc rfl (λ_=>rfl) (λ_=>rfl),⟨d,aa,ab,ac,ad,ae,af,ag,ah,G,H,I,J,N,O,U,Y⟩⟩
def Pn {c:CfR} (d:yb c=ό):qT 0 (uL c):=by
 have h:=(vN d).1
 refine⟨⟨λo t a=>(by cases a),λo t a=>(by cases a),λo t H t' a=>(by cases a),λo t a=>(by cases a),λx l a=>(by cases a),λx l a=>(by cases a),λx i a=>(by cases a),λx i v a=>(by cases a)⟩,
  ⟨λx a=>(by cases a),λx=>rfl,λx G a=>(by cases a),λx G a=>(by cases a),λp k _=>rfl,λx o a=>(by cases a),λo v a=>(by cases a)⟩,
  ⟨d,by simp[uL],by simp[uL],by simp[uL],rfl,by simp[uL],by simp[uL],by simp[uL],λo t a=>(by cases a),λo t a=>(by cases a),λb a=>(by cases a),by simp only[uL,ϱ];omega,λa b=>(by cases b),by simp[uL],λx l a=>(by cases a),by simp[uL],by simp[uL]⟩⟩
def RmS.heldL (s:RmS):List Int:=s.origins.flatMap λo=>match qm s.strs o with
 | some t=>thJ t.buf.holds
 | none=>[]
def Fs (s:RmS):s.heldL.length=s.held:=by
 unfold RmS.heldL RmS.held;rw[List.length_flatMap]
 congr 1
 refine J5 λo _=> ?_
 cases qm s.strs o with
 | none=>rfl
 | some t=>simp[thJ]
def mem_workers {w:Og}:w∈s.workers↔w=(0,0)∨w=(1,0)∨((w.1=2∨w.1=3∨w.1=4)/\w.2∈subIds/\(qm s.lanes w.2).isSome=ό):=by
 unfold RmS.workers yO RmS.there;obtain⟨a,b⟩:=w;simp only[ϫ,List.mem_flatMap,G2,C2,O1,or_false,C7];constructor
 ·rintro(h | h | ⟨x,⟨d,H,G⟩,I⟩)
  ·exact ϐ h
  ·exact ϓ (ϐ h)
  ·rcases I with ⟨rfl,rfl⟩ | ⟨rfl,rfl⟩ | ⟨rfl,rfl⟩
   ·exact ϓ (ϓ ⟨ϐ rfl,d,G⟩)
   ·exact ϓ (ϓ ⟨ϓ (ϐ rfl),d,G⟩)
   ·exact ϓ (ϓ ⟨ϓ (ϓ rfl),d,G⟩)
 ·rintro(h | h | ⟨d,H,G⟩)
  ·exact ϐ h
  ·exact ϓ (ϐ h)
  ·refine ϓ (ϓ ⟨b,⟨H,H,G⟩, ?_⟩);rcases d with rfl | rfl | rfl
   ·exact ϐ ⟨rfl,rfl⟩
   ·exact ϓ (ϐ ⟨rfl,rfl⟩)
   ·exact ϓ (ϓ ⟨rfl,rfl⟩)
def QS (h: ∀x,(qm s'.lanes x).isSome=(qm s.lanes x).isSome):s'.workers=s.workers:=by
 unfold RmS.workers RmS.there;rw[List.filter_congr (λx _=>h x)]
def RmS.picks (s:RmS) (acc:Bool) (L:List Og):RmS:=L.foldl (λs w=>(s.pick w acc).1) s
def WD (s:RmS) (acc:Bool) (v:Og) (L:List Og):s.picks acc (v::L)=(s.pick v acc).1.picks acc L:=rfl
def IL (s:RmS) (w:Og):(∀x,(qm (s.drain w).lanes x).map (·.W)=(qm s.lanes x).map (·.W))/\(s.drain w).tab=s.tab/\(s.drain w).pks=s.pks/\(s.drain w).clock=s.clock:=by
 have d: ∀{s':RmS},Loc s s'->(∀x,(qm s'.lanes x).map (·.W)=(qm s.lanes x).map (·.W))/\s'.tab=s.tab/\s'.pks=s.pks/\s'.clock=s.clock:=λk=>by
  refine⟨λx=> ?_,k.tab,k.pks,k.clock⟩;have:=ϰ (Option.map λp:Bool×Bool×List (Int×List Int)=>p.2.2) (k.lanes x)
  simpa [X1,Function.comp_def] using this
 unfold RmS.drain;split
 ·exact⟨λ_=>rfl,rfl,rfl,rfl⟩
 ·split
  ·exact d (yt gS _ s)
  ·exact d (gT s w)
section
variable {S V:Type} {step:S->V->S} {Inv:S->Prop} {f:S->Nat} {P:S->V->Prop}
def GI (hi: ∀s v,Inv s->Inv (step s v)) (J: ∀s v,Inv s->f (step s v)<=f s) (I: ∀s v u,Inv s->P s u->f (step s v)<f s∨P (step s v) u) (H: ∀s v,Inv s->P s v->f (step s v)<f s):
  ∀(L:List V) (s:S),Inv s->Inv (L.foldl step s)/\f (L.foldl step s)<=f s/\ ∀u∈L,P s u->f (L.foldl step s)<f s
 | [],s,h=>⟨h,ϕ _,λu G=>by cases G⟩
 | v::L,s,h=>by
  rw[B6];obtain⟨a,b,c⟩:=GI hi J I H L (step s v) (hi s v h);have O:=J s v h;refine⟨a,τ,λu G N=> ?_⟩;by_cases e:u=v
  ·have:=H s v h (by rw[<-e];exact N);omega
  ·rcases I s v u h N with d | d
   ·omega
   ·have:=c u ((ϫ.1 G).resolve_left e) d;omega
def uT (hi: ∀s v,Inv s->Inv (step s v)) (N: ∀s v,Inv s->f (step s v)<=f s) (J: ∀s v u,Inv s->P s u->f (step s v)<f s∨P (step s v) u) (H: ∀s v,Inv s->P s v->f (step s v)<f s)
  (G:List V) (I: ∀s,Inv s->0<f s-> ∃u∈G,P s u):
  ∀(d:List (List V)) (s:S),Inv s->(∀L∈d,∀u∈G,u∈L)->Inv (d.flatten.foldl step s)/\f (d.flatten.foldl step s)<=f s-d.length
 | [],s,h,_=>⟨h,ϕ _⟩
 | L::d,s,h,hL=>by
  rw[B3,Δ];obtain⟨a,b,c⟩:=GI hi N J H L s h;obtain⟨O,e⟩:=uT hi N J H G I d (L.foldl step s) a λM U=>hL M (Ϧ _ U)
  refine⟨O, ?_⟩;rw[Ϙ];by_cases z:0<f s
  ·obtain⟨u,aa,Y⟩:=I s h z;have:=c u (hL L ϣ u aa) Y;omega
  ·omega
end
def YD (k:Loc s s') (x:Int):(qm s'.lanes x).isSome=(qm s.lanes x).isSome:=vR (k.lanes x)
structure OpP (s s':RmS):Prop where
 closed:s'.closed=s.closed
 there: ∀x,(qm s'.lanes x).isSome=(qm s.lanes x).isSome
 cfg:s'.cfg=s.cfg
 clock:s'.clock=s.clock
def OpP.loc (k:Loc s s'):OpP s s':=⟨k.closed,YD k,k.cfg,k.clock⟩
def OpP.workers (k:OpP s s'):s'.workers=s.workers:=QS k.there
def Em (s:RmS):OpP s s.read/\s.read.queue=s.queue.tail:=by
 unfold RmS.read;cases hq:s.queue with
 | nil=>exact⟨⟨rfl,λ_=>rfl,rfl,rfl⟩,hq⟩
 | cons b q=>
  simp only;split
  ·unfold RmS.tell;split
   ·have k:=wQ (xR (zv b).1) {{s with queue:=q} with cnt:={s.cnt with told:=s.cnt.told+1}};exact⟨⟨k.closed,λx=>YD k x,k.cfg,k.clock⟩,k.queue⟩
   ·exact⟨⟨rfl,λ_=>rfl,rfl,rfl⟩,rfl⟩
  ·unfold RmS.media;split
   ·cases qm ({s with queue:=q}:RmS).tab.o (jS b).1.sc with
    | none=>exact⟨⟨rfl,λ_=>rfl,rfl,rfl⟩,rfl⟩
    | some o=>
     simp only;unfold RmS.accept;cases qm ({s with queue:=q}:RmS).strs o with
     | none=>exact⟨⟨rfl,λ_=>rfl,rfl,rfl⟩,rfl⟩
     | some t=>exact⟨⟨rfl,λ_=>rfl,rfl,rfl⟩,rfl⟩
   ·exact⟨⟨rfl,λ_=>rfl,rfl,rfl⟩,rfl⟩
def kR (s:RmS) (x:Int) (acc:Bool):OpP s (s.write x acc)/\(s.write x acc).queue=s.queue:=by
 unfold RmS.write;cases hl:qm s.lanes x with
 | none=>exact⟨⟨rfl,λ_=>rfl,rfl,rfl⟩,rfl⟩
 | some l=>
  refine⟨⟨rfl,λy=> ?_,rfl,rfl⟩,rfl⟩;simp only;rw[qE];split
  ·rename_i e;rw[e,hl];rfl
  ·rfl
def Kg (d:s.closed=ύ) (w:Og) (acc:Bool):OpP s (s.stepW w acc)/\(s.stepW w acc).queue=if w.1=0 then s.queue.tail else s.queue:=by
 unfold RmS.stepW;rw[ώ (by rw[d];decide)];split
 ·exact Em s
 ·split
  ·exact⟨OpP.loc (zd s),(zd s).queue⟩
  ·split
   ·exact⟨OpP.loc (xv s _),(xv s _).queue⟩
   ·split
    ·exact⟨OpP.loc (j6 s _),(j6 s _).queue⟩
    ·exact kR s _ _
def zJ (G:s.closed=ύ) (w:Og) (acc:Bool):OpP s (s.pick w acc).1/\((s.pick w acc).1.queue=s.queue∨(s.pick w acc).1.queue=s.queue.tail)/\(w=(0,0)->(s.pick w acc).1.queue=s.queue.tail):=by
 unfold RmS.pick;split
 ·rename_i H;obtain⟨a,b⟩:=Kg G w acc;refine⟨a, ?_,λe=> ?_⟩
  ·rw[b];split
   ·exact ϓ rfl
   ·exact ϐ rfl
  ·rw[b,e];rfl
 ·rename_i H;refine⟨⟨rfl,λ_=>rfl,rfl,rfl⟩,ϐ rfl,λe=> ?_⟩
  have: ¬(0<s.queue.length):=λd=>H (by
   unfold RmS.may;rw[ώ (by rw[G];decide),e];have:((0,0):Og)∈s.workers:=mem_workers.2 (ϐ rfl);rw[Ϩ this];unfold RmS.mayOpen
   simp[d])
  cases d:s.queue with
  | nil=>rfl
  | cons b q=>rw[d] at this;simp at this
def Zo (J:s.closed=ύ) (acc:Bool) (d:List (List Og)) (I: ∀L∈d,((0,0):Og)∈L):
  (s.picks acc d.flatten).closed=ύ/\(s.picks acc d.flatten).workers=s.workers/\(s.picks acc d.flatten).queue.length<=s.queue.length-d.length:=by
 obtain⟨a,b⟩:=uT (step:=λs w=>(RmS.pick s w acc).1) (Inv:=λt=>t.closed=ύ/\t.workers=s.workers) (f:=λt=>t.queue.length) (P:=λt v=>v=(0,0)/\0<t.queue.length)
  (λt v h=>⟨(zJ h.1 v acc).1.closed.trans h.1,(zJ h.1 v acc).1.workers.trans h.2⟩)
  (λt v h=>by
   rcases(zJ h.1 v acc).2.1 with e | e<;>rw[e]
   ·exact ϕ _
   ·rw[F3];omega)
  (λt v u h G=>by
   rcases(zJ h.1 v acc).2.1 with e | e
   ·exact ϓ ⟨G.1,by rw[e];exact G.2⟩
   ·refine ϐ ?_;rw[e,F3]
    omega)
  (λt v h G=>by
   rw[(zJ h.1 v acc).2.2 G.1,F3]
   omega)
  [(0,0)] (λt h O=>⟨(0,0),Γ.2 rfl,rfl,O⟩) d s ⟨J,rfl⟩ (λL N u H=>by rw[Γ] at H;rw[H];exact I L N)
 exact⟨a.1,a.2,b⟩
structure A22 where
 act:Int
 sub:Int
 pub:Int
 layer:Int
 b:List Int
 w:Og
 acc:Bool
 own:Int
 stamp:Int
 seq:Int
 s0:Int
 s1:Int
 s2:Int
def doR (s:RmS) (a:A22):RmS×Int×Bool:=
 if a.act=0 then ((s.arrive a.b).1,(s.arrive a.b).2,ύ) else if a.act=1 then ((s.pick a.w a.acc).1,0,(s.pick a.w a.acc).2) else if a.act=2 then (s.tick.1,s.tick.2,ύ)
 else if a.act=3 then ((s.publish a.pub a.s0 a.s1 a.s2).1,(s.publish a.pub a.s0 a.s1 a.s2).2,ύ) else if a.act=4 then ((s.join a.sub a.own a.seq a.stamp).1,(s.join a.sub a.own a.seq a.stamp).2,ύ)
 else if a.act=5 then ((s.subscribe a.sub a.pub a.layer).1,(s.subscribe a.sub a.pub a.layer).2,ύ) else if a.act=6 then ((s.want a.sub a.layer).1,(s.want a.sub a.layer).2,ύ)
 else if a.act=7 then ((s.leave a.sub).1,(s.leave a.sub).2,ύ) else if a.act=8 then (s.shut.1,s.shut.2,ύ) else (s,0,ύ)
def Cg (h:qT n s) (I:(s.tab.u.map Prod.fst).Nodup) (a:A22) (d:Byt a.b) (G:a.b.length<=400) (H: ∀v∈[a.s0,a.s1,a.s2],0<=v/\v<=4294967295):qT (n+1) (doR s a).1:=by
 unfold doR;split
 ·exact h.arrive d G
 ·split
  ·exact h.pick _ _
  ·split
   ·exact h.tick
   ·split
    ·exact h.publish _ _ _ _ H
    ·split
     ·exact h.join _ _ _ _
     ·split
      ·exact h.subscribe _ _ _
      ·split
       ·exact h.want _ _
       ·split
        ·exact h.leave I _
        ·split
         ·exact h.shut
         ·exact h.up
def Kc (s:RmS) (o:Og):(s.tick1 o).ret=s.ret/\(s.tick1 o).closed=s.closed:=by
 unfold RmS.tick1;cases qm s.strs o with
 | none=>exact⟨rfl,rfl⟩
 | some t=>simp only;split<;>exact⟨rfl,rfl⟩
def XZ: ∀(L:List Og) (s:RmS),(L.foldl RmS.tick1 s).ret=s.ret/\(L.foldl RmS.tick1 s).closed=s.closed
 | [],_=>⟨rfl,rfl⟩
 | o::L,s=>by
  rw[B6];exact⟨(XZ L _).1.trans (Kc s o).1,(XZ L _).2.trans (Kc s o).2⟩
def Zk (a:A22) (d:a.act=1):doR s a=((s.pick a.w a.acc).1,0,(s.pick a.w a.acc).2):=by
 unfold doR;rw[ώ τ,ϒ d]
structure LnK (R:Nat) (l:LnS):Prop where
 room:l.room=R
 one:1<=R
 A:l.A.length<=R
 B:l.B.length<=R
 C:l.C.length<=R
def LnK.put (h:LnK R l) (x:ItS):LnK R (jL l x).1:=by
 obtain⟨d,G,J,H,I⟩:=h;rcases Vj l x with ⟨e,_⟩ | ⟨_,_,_,_,_,e,_⟩
 ·rw[e];exact⟨d,G,J,H,I⟩
 ·rw[e];refine⟨d,G, ?_,H,I⟩;simp only;split
  ·rw[Ϗ,B4];omega
  ·rw[Ϗ,B4,F3];omega
def LnK.choose (h:LnK R l):LnK R (qP l).1:=by
 obtain⟨d,G,H,I,J⟩:=h;rcases xX (s:=l) with ⟨_,e⟩ | ⟨_,x,A,N,O,e⟩
 ·rw[e];exact⟨d,G,H,I,J⟩
 ·rw[e];rw[N,Ϙ] at H;refine⟨d,G,by simp only;omega, ?_,J⟩;simp only;split
  ·rw[Ϗ,B4];omega
  ·exact I
def LnK.rewrite (h:LnK R l):LnK R (qN l).1:=by
 obtain⟨d,G,H,I,J⟩:=h;rcases zj (s:=l) with ⟨_,e⟩ | ⟨x,f,B,N,e⟩
 ·rw[e];exact⟨d,G,H,I,J⟩
 ·rw[e];rw[N,Ϙ] at I;refine⟨d,G,H,by simp only;omega, ?_⟩;simp only;split
  ·rw[Ϗ,B4];omega
  ·rw[Ϗ,B4,F3];omega
def LnK.write (h:LnK R l) (acc:Bool):LnK R (qJ l acc).1:=by
 obtain⟨d,G,I,J,H⟩:=h;rcases zc (s:=l) acc with ⟨_,e⟩ | ⟨o,C,N,⟨_,e⟩ | ⟨_,_,_,e⟩⟩
 ·rw[e];exact⟨d,G,I,J,H⟩
 ·rw[e];rw[N,Ϙ] at H;refine⟨d,G,I,J, ?_⟩;simp only;split
  ·omega
  ·rw[Ϙ];exact H
 ·rw[e];exact⟨d,G,Ϻ _,Ϻ _,Ϻ _⟩
def LnK.want (h:LnK R l) (n:Int):LnK R (jA l n).1:=by
 rcases CF (s:=l) n with e | ⟨_,e⟩<;>rw[e]
 ·exact h
 ·exact⟨h.room,h.one,h.A,h.B,h.C⟩
def LnK.drain (h:LnK R l) (n:Int):LnK R (kz l n):=by
 obtain⟨d,G,H,I,J⟩:=h;unfold kz;refine⟨d,G, ?_, ?_, ?_⟩<;>simp only<;>first | omega | (split<;>first | exact Ϻ _ | assumption)
def LkL (R:Nat) (L:List (Int×LnS)):Prop:= ∀x l,qm L x=ϊ l->LnK R l
def LkL.put (h:LkL R L) (x:Int) (G:LnK R l):LkL R (qB L x l):=λy m d=>by
 rw[qE] at d;split at d
 ·injection d with e;rw[<-e];exact G
 ·exact h y m d
def wO (d: ∀s x,LkL R s.lanes->LkL R (f s x).lanes): ∀(L:List α) (s:RmS),LkL R s.lanes->LkL R (L.foldl f s).lanes
 | [],s,h=>h
 | x::L,s,h=>wO d L (f s x) (d s x h)
def As (h:LkL R s.lanes) (x:Int):LkL R (s.choose x).lanes:=by
 unfold RmS.choose;cases hl:qm s.lanes x with
 | none=>exact h
 | some l=>exact h.put x (h x l hl).choose
def Wq (h:LkL R s.lanes) (x:Int):LkL R (s.rewrite x).lanes:=by
 unfold RmS.rewrite;cases hl:qm s.lanes x with
 | none=>exact h
 | some l=>exact h.put x (h x l hl).rewrite
def Cv (h:LkL R s.lanes) (x:Int) (acc:Bool):LkL R (s.write x acc).lanes:=by
 unfold RmS.write;cases hl:qm s.lanes x with
 | none=>exact h
 | some l=>exact h.put x ((h x l hl).write acc)
def Ia (d:ItS) (s:RmS) (x:Int) (h:LkL R s.lanes):LkL R (s.put1 d x).lanes:=by
 unfold RmS.put1;split
 ·cases hl:qm s.lanes x with
  | none=>exact h
  | some l=>
   simp only;split<;>exact h.put x ((h x l hl).put d)
 ·exact h
def EJ (h:LkL R s.lanes):LkL R s.order.lanes:=by
 unfold RmS.order;cases s.ready with
 | none=>exact h
 | some o=>
  simp only;cases qm s.strs o with
  | none=>exact h
  | some t=>
   simp only;unfold RmS.orderAt;exact wO (λs x=>Ia _ s x) subIds _ h
def Hx (h:LkL R s.lanes):LkL R s.read.lanes:=by
 unfold RmS.read;cases hq:s.queue with
 | nil=>exact h
 | cons b q=>
  simp only;split
  ·unfold RmS.tell;split
   ·exact wO (f:=RmS.tellS) (λs src h=>wO (f:=RmS.tell1) (λs x h=>by
     unfold RmS.tell1
     repeat' split
     all_goals exact h) _ s h) _ _ h
   ·exact h
  ·unfold RmS.media;split
   ·cases qm ({s with queue:=q}:RmS).tab.o (jS b).1.sc with
    | none=>exact h
    | some o=>
     simp only;unfold RmS.accept;cases qm ({s with queue:=q}:RmS).strs o with
     | none=>exact h
     | some t=>exact h
   ·exact h
def KQ (h:LkL R s.lanes) (w:Og):LkL R (s.drain w).lanes:=by
 unfold RmS.drain;split
 ·exact h
 ·split
  ·exact wO (λs o h=>by
    unfold RmS.drainO;cases qm s.strs o with
    | none=>exact h
    | some t=>exact wO (f:=RmS.drain1) (λs i h=>h) _ _ h) _ _ h
  ·unfold RmS.drainL;cases hl:qm s.lanes w.2 with
   | none=>exact h
   | some l=>exact h.put w.2 ((h w.2 l hl).drain _)
def Ho (h:LkL R s.lanes) (w:Og) (acc:Bool):LkL R (s.stepW w acc).lanes:=by
 unfold RmS.stepW;split
 ·unfold RmS.endW;split
  ·exact KQ h w
  ·exact KQ h w
 ·split
  ·exact Hx h
  ·split
   ·exact EJ h
   ·split
    ·exact As h _
    ·split
     ·exact Wq h _
     ·exact Cv h _ _
def Pf (h:LkL R s.lanes) (w:Og) (acc:Bool):LkL R (s.pick w acc).1.lanes:=by
 unfold RmS.pick;split
 ·exact Ho h w acc
 ·exact h
def OX (H:qL w0 w k s F):Calls prog 28 #[γ k.R] w λe w'=>e= .returned (ι s.shut.2)/\qL w0 w' k s.shut.1 F/\qA F w w':=by
 have J:=κ H;obtain⟨vp,ab,d⟩:=H.blk;have U:=β7 d;have aa:=ql d 7;obtain⟨Y,I⟩:=ν (s.closed);rw[I] at U;have O:=κ I;clear I H d;cases Y with
 | true=>
  have G:Hid (s.shut=(s,7)):=κ (by unfold RmS.shut;rw[ϒ O.o]);rw[G.o]
  go_enter func28,ntmps28
  go_wp2;go_ret;exact⟨rfl,J.o,qA.refl _ _⟩
 | false=>
  have G:Hid (s.shut=({s with closed:=ό},0)):=κ (by unfold RmS.shut;rw[ώ (by rw[O.o];decide)]);have N:=κ (J.o.cell 7 (μ ό) (s':={s with closed:=ό}) (λ_ _=>rfl) ⟨rfl,rfl,rfl,rfl,rfl,rfl,rfl,rfl,rfl⟩);rw[G.o]
  go_enter func28,ntmps28
  go_wp2;go_ret;exact⟨rfl,N.o.1,N.o.2⟩
def Lf (h:qL w0 w k s F):Calls prog 19 #[γ k.R] w λe w'=>e= .returned (θ #[ι s.cnt.lost,ι s.cnt.malf,ι s.cnt.strange,ι s.cnt.told,ι s.cnt.acc])/\qh w w':=by
 obtain⟨vp,U,G⟩:=h.blk;have d:=κ (qv G (.cells #[ι 0,ι 0,ι 0,ι 0,ι 0] 78));have H:=β16 d.o;have I:=β17 d.o;have J:=β18 d.o;have N:=β19 d.o;have O:=β20 d.o;clear G h
 go_enter func19,ntmps19
 go_wp2
 (refine bodyPost_ret (v:= θ #[ι s.cnt.lost,ι s.cnt.malf,ι s.cnt.strange,ι s.cnt.told,ι s.cnt.acc]) ?rr1 rfl ?_;(case rr1=>(simp[results,results19,go_sem,H])))
 exact⟨rfl,qh.alloc _ _⟩
def RmX.laneDel (h:RmX T w0 w k vp vr s F) (m:jm w' k.ML (Value.int .i64) Qf (yX k.LA x)) (a:qk (λb=>b=k.ML) w w'):
  qL w0 w' {k with LA:=yX k.LA x} {s with lanes:=Y3 s.lanes x} F/\qA F w w':=by
 obtain⟨d,J⟩:=h.all .lns;have I:=J.keys;have H:=h.fresh;obtain⟨y,z⟩:=h.own (t:= .lns) (k':={k with LA:=yX k.LA x}) (vp':=vp) (vr':=vr) (s':={s with lanes:=Y3 s.lanes x}) ⟨η,η⟩ (a.mono λb G=>by rw[G];exact d) ⟨(jj H η _).2 (ϐ d),m⟩
  (λu N U y=>by
   cases u<;>first | exact y | exact ϧ rfl N | skip
   rename_i O;unfold RmK.Holds at y ⊢;simp only;rw[uk I,ul];by_cases e:O=x
   ·rw[ϒ e,ϒ e];exact⟨λp l c=>(by cases c),rfl⟩
   ·rw[ώ e,ώ e]
    exact y)
 exact⟨y.at,z⟩
def UK (h:RmX T w0 w k vp vr s F) (b:ju w' k.tb k.ta k.tc k.td t) (a:qk (λx=>x=k.td) w w'):qL w0 w' k {s with tab:=t} F/\qA F w w':=
 h.table b (a.mono λ_ e=>ϓ (ϓ e))
def Nw (ar:qL w0 w k s F) (aj:s.book.length<=900000) (x:Int):
  Calls prog 47 #[γ k.R,ι x] w λe w'=> ∃k',k'.R=k.R/\e= .returned (ι (s.leave x).2)/\qL w0 w' k' (s.leave x).1 F/\qA F w w':=by
 obtain⟨T,vp,aC,aa⟩:=ar;have Y:=κ aa;have ap:=β7 aa.blk;have ay:=β11 aa.blk;obtain⟨aq,ae⟩:=ν (s.closed);rw[ae] at ap;have ab:=κ ae;have an:=κ aj;clear ae aa aj;cases aq with
 | true=>
  have H:Hid (s.leave x=(s,7)):=κ (by unfold RmS.leave;rw[ϒ ab.o]);rw[H.o]
  go_enter func47,ntmps47
  go_wp2;go_ret;exact⟨k,rfl,rfl,Y.o.at,qA.refl _ _⟩
 | false=>
  have U:=κ (Lb Y.o.tab x);obtain⟨ac,d⟩:=ν ((zb s.tab x).2);obtain⟨am,N⟩:=ν ((zb s.tab x).1);rw[d,N] at U;by_cases e0:ac=0
  ·subst e0;have H:Hid (s.leave x=({s with tab:=am,book:=vW s.book x 7,lanes:=Y3 s.lanes x},0)):=κ (by unfold RmS.leave;rw[ώ (by rw[ab.o];decide),ϒ d,N]);rw[H.o];clear d N
   go_enter func47,ntmps47
   go_wp2_with (first | (go_at_call 106;(go_call U.o as e w1 ⟨rfl,J,I⟩;have G:=κ (UK Y.o J I);obtain⟨_,_,af⟩:=G.o.1.blk;have ax:=β0 af;clear J I af)) | (go_at_call 107;(go_call NU G.o.1 x (by have:=an.o;show s.book.length<=1000000;omega) as e w2 ⟨⟨aA,rfl⟩,ad,t2,_⟩;obtain⟨ah,aB,aD,O⟩:=ad;have av:=κ O;have ah:=κ t2;have az:=β12 O.blk;obtain⟨w9,al,ak,ai,_⟩:=O.lnm.drop ug underlying90 x 0;have al: ∀ty,(Builtin.delete_ #[90,3] ty #[.map (ϊ k.ML),ι x]).run prog w2= .ok (.tuple #[]) w9:=λ_=>al;have ag:=κ (O.laneDel ak ai);clear ak ai O t2)))
   go_ret;exact⟨{k with LA:=yX k.LA x},rfl,rfl,ag.o.1,G.o.2.trans (ah.o.trans ag.o.2)⟩
  ·have aw:(ac != 0)=ό:=by simp[e0]
   have H:Hid (s.leave x=(s,ac)):=κ (by unfold RmS.leave;rw[ώ (by rw[ab.o];decide),d,ώ e0])
   have ao:Hid (am=s.tab):=κ (by
    rw[<-N];unfold zb at d ⊢;split
    ·rename_i au;rw[ϒ au] at d;split
     ·rename_i ad;rw[ϒ ad] at d;exact ϧ d.symm e0
     ·rfl
    ·rfl)
   rw[ao.o] at U;rw[H.o];clear d N e0
   go_enter func47,ntmps47
   go_wp2_with (go_at_call 106;(go_call U.o as e w1 ⟨rfl,J,I⟩;have G:=κ (UK Y.o J I);clear J I))
   go_ret;exact⟨k,rfl,rfl,G.o.1,G.o.2⟩
def Cp (h:RmX T w0 w k vp vr s F) {p:Nat} (d:qm s.lanes x=ϊ l) (G:qm k.LA x=ϊ p) (n:Int):
  Calls prog 91 #[γ p,ι n] w λe w'=>e= .returned (ι (jA l n).2)/\qL w0 w' k {s with lanes:=qB s.lanes x (jA l n).1} F/\qA F w w':=by
 obtain⟨p2,H,I⟩:=h.laneAt d;obtain rfl:p2=p:=by rw[G] at H;injection H with e;exact e.symm
 refine(Hm I n).mono ?_;rintro e w' ⟨rfl,b,a⟩;exact⟨rfl,h.lanePut d G b a⟩
def LU (au:qL w0 w k s F) (aj:zu s) (x n:Int):
  Calls prog 36 #[γ k.R,ι x,ι n] w λe w'=>e= .returned (ι (s.want x n).2)/\qL w0 w' k (s.want x n).1 F/\qA F w w':=by
 obtain⟨T,vp,aA,ab⟩:=au;have d:=κ ab;have am:=κ aj;have aq:=β7 ab.blk;have ax:=β11 ab.blk;obtain⟨ar,ac⟩:=ν (s.closed);rw[ac] at aq;have ag:=κ ac;clear ac ab aj;cases ar with
 | true=>
  have G:Hid (s.want x n=(s,7)):=κ (by unfold RmS.want;rw[ϒ ag.o]);rw[G.o]
  go_enter func36,ntmps36
  go_wp2;go_ret;exact⟨rfl,d.o.at,qA.refl _ _⟩
 | false=>
  have I:Hid (s.want x n=if (decide (0<=x/\x<6)&&je n)=ύ then (s,1) else if ((qm s.tab.u x).getD sb0).2.1=ύ then (s,5) else (match qm s.lanes x with
   | none=>(s,0)
   | some l=>({s with lanes:=qB s.lanes x (jA l n).1},(jA l n).2))):=κ (by unfold RmS.want;rw[ώ (by rw[ag.o];decide)];rfl)
  obtain⟨aw,af⟩:=ν (je n);have Y:=κ (λw=>UZ n w);rw[af] at Y I;by_cases h1:x<0
  ·have G:Hid (s.want x n=(s,1)):=κ (by rw[I.o,Ϯ τ,ϒ (by rfl)]);rw[G.o]
   go_enter func36,ntmps36
   go_wp2;go_ret;exact⟨rfl,d.o.at,qA.refl _ _⟩
  ·by_cases h2:x<6
   ·cases aw with
    | false=>
     have G:Hid (s.want x n=(s,1)):=κ (by rw[I.o,Q7,ϒ rfl]);rw[G.o];clear af
     go_enter func36,ntmps36
     go_wp2_with (go_at_call 89;(go_call Y.o _ as e w1 ⟨rfl,N⟩;obtain rfl:=N))
     go_ret;exact⟨rfl,d.o.at,qA.refl _ _⟩
    | true=>
     have O:Hid (s.want x n=if ((qm s.tab.u x).getD sb0).2.1=ύ then (s,5) else (match qm s.lanes x with
      | none=>(s,0)
      | some l=>({s with lanes:=qB s.lanes x (jA l n).1},(jA l n).2))):=κ (by rw[I.o,Ϩ τ,ώ ζ])
     have U:=κ (NT d.o.tab x);obtain⟨av,ae⟩:=ν ((qm s.tab.u x).getD sb0);rw[ae] at U O;have an:=κ ae;clear af ae I;obtain⟨s1,s2,s3⟩:=av;simp only at U O;cases s2 with
     | false=>
      have G:Hid (s.want x n=(s,5)):=κ (by rw[O.o,ϒ rfl]);rw[G.o]
      go_enter func36,ntmps36
      go_wp2_with (first | (go_at_call 89;(go_call Y.o _ as e w1 ⟨rfl,N⟩;obtain rfl:=N)) | (go_at_call 90;(go_call U.o as e w2 ⟨rfl,H⟩;have J:=κ H;clear H)))
      go_ret;exact⟨rfl,d.o.at.on J.o,d.o.at.stay J.o⟩
     | true=>
      have ai:(qm s.lanes x).isSome=ό:=by
       rw[<-am.o.lane];have:=an.o;cases hu:qm s.tab.u x with
       | none=>rw[hu] at this;simp only[Option.getD_none] at this;unfold sb0 at this;injection this with _ q;injection q with q _;(try cases q)
       | some y=>rfl
      obtain⟨l,aa⟩:=Ϟ.1 ai;obtain⟨p,ad,_⟩:=d.o.laneAt aa;have G:Hid (s.want x n=({s with lanes:=qB s.lanes x (jA l n).1},(jA l n).2)):=κ (by rw[O.o,ώ ζ,aa]);have ao:=κ (λw' (m:qh w w')=>Cp (d.o.on m) aa ad n)
      have al:Hid (∀w',qh w w'->(Instr.lookup 90 (.map (ϊ k.ML)) (ι x) ύ).run prog w'= .ok (γ p) w'):=κ (λw' m=>by
       have:=xH (d.o.lnm.more m) x ύ;rw[ad] at this
       exact this)
      rw[G.o];clear ai aa ad
      go_enter func36,ntmps36
      go_wp2_with (first | (go_at_call 89;(go_call Y.o _ as e w1 ⟨rfl,N⟩;obtain rfl:=N)) | (go_at_call 90;(go_call U.o as e w2 ⟨rfl,H⟩;have J:=κ H;have ay:=β12 (qj H d.o.blk);have az:=al.o _ H;clear H)) | (go_at_call 91;(go_call ao.o _ J.o as e aB ⟨rfl,ah,t3⟩;have ak:=κ ah;have ap:=κ t3;clear ah t3)))
      go_ret;exact⟨rfl,ak.o,(d.o.at.stay J.o).trans ap.o⟩
   ·have G:Hid (s.want x n=(s,1)):=κ (by rw[I.o,Ϯ τ,ϒ (by rfl)]);rw[G.o]
    go_enter func36,ntmps36
    go_wp2;go_ret;exact⟨rfl,d.o.at,qA.refl _ _⟩
def Kf {p:Int} (h: ¬(yI t x p).2=0):(yI t x p).1=t:=by
 unfold yI at h ⊢
 repeat' split
 all_goals first | rfl | skip
 rename_i d G H;rw[ϒ d,ϒ G,ώ H] at h;exact ϧ rfl h
def Dj {p:Int} (h:qm t.u x=ϋ): ¬(yI t x p).2=0:=by
 unfold yI;rw[h];split<;>simp
def ZE (aJ:qL w0 w k s F) (ax:zu s) (x p n:Int):
  Calls prog 46 #[γ k.R,ι x,ι p,ι n] w λe w'=>e= .returned (ι (s.subscribe x p n).2)/\qL w0 w' k (s.subscribe x p n).1 F/\qA F w w':=by
 obtain⟨T,vp,aP,ao⟩:=aJ;have d:=κ ao;have aD:=κ ax;have aH:=β7 ao.blk;obtain⟨aI,an⟩:=ν (s.closed);rw[an] at aH;have ae:=κ an;clear an ao ax;cases aI with
 | true=>
  have G:Hid (s.subscribe x p n=(s,7)):=κ (by unfold RmS.subscribe;rw[ϒ ae.o]);rw[G.o]
  go_enter func46,ntmps46
  go_wp2;go_ret;exact⟨rfl,d.o.at,qA.refl _ _⟩
 | false=>
  obtain⟨aK,J⟩:=ν (je n);have aa:=κ (λw=>UZ n w);rw[J] at aa;cases aK with
  | false=>
   have G:Hid (s.subscribe x p n=(s,1)):=κ (by unfold RmS.subscribe;rw[ώ (by rw[ae.o];decide),ϒ J]);rw[G.o];clear J
   go_enter func46,ntmps46
   go_wp2_with (go_at_call 89;(go_call aa.o _ as e w1 ⟨rfl,O⟩;obtain rfl:=O))
   go_ret;exact⟨rfl,d.o.at,qA.refl _ _⟩
  | true=>
   have aN:=β12 d.o.blk;have q:_:=xH d.o.lnm x ό;simp only[Ψ] at q;obtain⟨Y,H⟩:=ν ((yI s.tab x p).2);obtain⟨ay,ac⟩:=ν ((yI s.tab x p).1);cases hl:qm s.lanes x with
   | none=>
    have aw:=d.o.laneNo hl;rw[aw] at q
    replace q:(Instr.lookup 90 (.map (ϊ k.ML)) (ι x) ό).run prog w= .ok (.tuple #[π ϋ,ύ]) w:=q
    have am:qm s.tab.u x=ϋ:=by
     have:=aD.o.lane x;rw[hl] at this;cases am:qm s.tab.u x with
     | none=>rfl
     | some y=>rw[am] at this;cases this
    have al:=Dj (p:=p) am;have ah:=Kf al
    have G:Hid (s.subscribe x p n=(s,Y)):=κ (by
     unfold RmS.subscribe Jj
     rw[ώ (by rw[ae.o];decide),ώ (by rw[J];decide),hl,ώ ζ,ώ al,H])
    have U:=κ (Xd d.o.tab x p);rw[ah,H] at U;have aG:(Y != 0)=ό:=by rw[<-H];simp[al]
    have au:=β11 d.o.blk;rw[G.o];clear J hl aw am al ah H ac
    go_enter func46,ntmps46
    go_wp2_with (first | (go_at_call 89;(go_call aa.o _ as e w1 ⟨rfl,O⟩;obtain rfl:=O)) | (go_at_call 105;(go_call U.o as e w2 ⟨rfl,ar,aq⟩;have ap:=κ (UK d.o ar aq);clear ar aq)))
    go_ret;exact⟨rfl,ap.o.1,ap.o.2⟩
   | some l=>
    obtain⟨pl,ag,ak⟩:=d.o.laneAt hl;rw[ag] at q
    replace q:(Instr.lookup 90 (.map (ϊ k.ML)) (ι x) ό).run prog w= .ok (.tuple #[γ pl,ό]) w:=q
    have ai:=κ (XB ak);have aB:=κ hl;have aC:=κ ag;obtain⟨g,ab⟩:=ν (l.gone);rw[ab] at ai;cases g with
    | true=>
     have G:Hid (s.subscribe x p n=(s,5)):=κ (by
      unfold RmS.subscribe Jj
      rw[ώ (by rw[ae.o];decide),ώ (by rw[J];decide),hl,ϒ ab])
     rw[G.o];clear J hl ag ak ab H ac
     go_enter func46,ntmps46
     go_wp2_with (first | (go_at_call 89;(go_call aa.o _ as e w1 ⟨rfl,O⟩;obtain rfl:=O)) | (go_at_call 69;(go_call ai.o as e w2 ⟨rfl,N⟩;have I:=κ N;clear N)))
     go_ret;exact⟨rfl,d.o.at.on I.o,d.o.at.stay I.o⟩
    | false=>
     have U:=κ (λw' (m:qh w w')=>Xd (d.o.tab.more m) x p);have aj:s.subscribe x p n=if Y=0 then ({s with tab:=ay,lanes:=qB s.lanes x (jA l n).1},(jA l n).2) else (s,Y):=by
      unfold RmS.subscribe Jj;rw[ώ (by rw[ae.o];decide),ώ (by rw[J];decide),hl];simp only;rw[ώ (by rw[ab];decide),H,ac]
     by_cases e0:Y=0
     ·subst e0;have G:Hid (s.subscribe x p n=({s with tab:=ay,lanes:=qB s.lanes x (jA l n).1},(jA l n).2)):=κ (by rw[aj,ϒ rfl]);rw[H,ac] at U;rw[G.o];clear J hl ag ak ab H ac aj
      go_enter func46,ntmps46
      go_wp2_with (first | (go_at_call 89;(go_call aa.o _ as e w1 ⟨rfl,O⟩;obtain rfl:=O)) | (go_at_call 69;(go_call ai.o as e w2 ⟨rfl,N⟩;have I:=κ N;have au:=β11 (qj N d.o.blk);clear N)) | (go_at_call 105;(go_call U.o _ I.o as e aL ⟨rfl,af,a3⟩;have ad:=κ (UK (d.o.on I.o) af a3);obtain⟨aM,aO,aQ,az⟩:=ad.o.1;have aE:=κ (Cp az aB.o aC.o n);clear af a3 az)) | (go_at_call 91;(go_call aE.o as e w4 ⟨rfl,av,t4⟩;have aA:=κ av;have aF:=κ t4;clear av t4)))
      go_ret;exact⟨rfl,aA.o,(d.o.at.stay I.o).trans (ad.o.2.trans aF.o)⟩
     ·have ah:=Kf (t:=s.tab) (x:=x) (p:=p) (by rw[H];exact e0);have G:Hid (s.subscribe x p n=(s,Y)):=κ (by rw[aj,ώ e0]);rw[H,ah] at U;have aG:(Y != 0)=ό:=by simp[e0]
      rw[G.o];clear J hl ag ak ab H ac aj ah e0
      go_enter func46,ntmps46
      go_wp2_with (first | (go_at_call 89;(go_call aa.o _ as e w1 ⟨rfl,O⟩;obtain rfl:=O)) | (go_at_call 69;(go_call ai.o as e w2 ⟨rfl,N⟩;have I:=κ N;have au:=β11 (qj N d.o.blk);clear N)) | (go_at_call 105;(go_call U.o _ I.o as e aL ⟨rfl,af,a3⟩;have ad:=κ (UK (d.o.on I.o) af a3);clear af a3)))
      go_ret;exact⟨rfl,ad.o.1,(d.o.at.stay I.o).trans ad.o.2⟩
section
open Go.RowKit Go.Lib
def Ny (w:World):Calls prog 317 #[δ ϋ 0 0] w λe w'=>e= .returned (δ ϋ 0 0)/\w'=w:=by
 go_enter func317,ntmps317
 go_wp2
 go_loopw [3,10] (λv d wr=>v= δ ϋ 0 0/\d= ι 0/\wr=w) (λ_ _ _=>0)
 case atStart=>exact⟨rfl,rfl,rfl⟩
 case round=>
  obtain⟨rfl,rfl,rfl⟩:=hrel;go_wp2;go_ret;exact⟨rfl,rfl⟩
def Cr (src:Int) (w:World):Calls prog 314 #[θ #[ι 1,ω 0,ω src,(),()]] w λe w'=>e= .returned (μ ό)/\qh w w':=by
 go_enter func314,ntmps314
 go_wp2;go_ret;exact⟨rfl,ρ⟩
def Nz (w:World):Calls prog 313 #[Γd] w λe w'=>e= .returned (μ ό)/\qh w w':=by
 have d: ∀w:World,(binOp .eql 286 (θ #[ω 0,ω 0,ω 0,ω 0,ω 0]) (θ #[ω 0,ω 0,ω 0,ω 0,ω 0])).run prog w= .ok (μ ό) w:=λw=>by kernel_rfl
 go_enter func313,ntmps313
 go_wp2;go_ret;exact⟨rfl,ρ⟩
def NA (w:World):Calls prog 311 #[θ #[υ 0,υ 0,()]] w λe w'=>e= .returned (μ ό)/\qh w w':=by
 go_enter func311,ntmps311
 go_wp2;go_ret;exact⟨rfl,ρ⟩
def Re (w:World):Calls prog 318 #[ι 1] w λe w'=>e= .returned (.tuple #[υ 206,υ 1])/\w'=w:=by
 go_enter func318,ntmps318
 go_wp2
 go_ret2
 exact⟨rfl,rfl⟩
def Qu (src:Int):(qy 0 4++qy src 4).length=8:=by rw[Ϗ,Mb,Mb]
def Nx (src:Int) (ap:0<=src/\src<=4294967295) (w:World):Calls prog 289 #[θ #[ι 1,ω 0,ω src,(),()]] w λe w'=> ∃ob cb,e= .returned (.tuple #[θ #[υ 1,υ 206,δ ob 8 cb],ι 0])/\SlI .u8 w' (δ ob 8 cb) (qy 0 4++qy src 4)/\qh w w'/\xg w (δ ob 8 cb):=by
 have aj:=κ (qv (qp w (.cells #[ι 1,ω 0,ω src,(),()] 283)) (.cells #[υ 0,υ 0,()] 291));have ak:=κ (qH (w:=w.alloc (.cells #[ι 1,ω 0,ω src,(),()] 283)) (n:=w.heap.size+1) (o:=(.cells #[υ 0,υ 0,()] 291)) η);have aw:=κ ap;clear ap
 go_enter func289,ntmps289
 go_wp2_with (first | (go_at_call 314;(go_call Cr src _ as e Y ⟨rfl,O⟩;have H:=κ (qj O aj.o);have am:=κ (qj O ak.o);have an:=κ (((qh.alloc w (.cells #[ι 1,ω 0,ω src,(),()] 283)).al (.cells #[υ 0,υ 0,()] 291)).trans O);clear O;have ae:=κ (gL Y);have ab:=κ (qh.alloc Y (.cells #[δ ϋ 0 0] 204));have ay:=β1 (qj ab.o H.o))) | (go_at_call 95;((with_reducible refine(wk ae.o 0 ζ η).mono ?_);rintro e w4 ⟨rfl,I⟩;have ac:=κ (I.to_more ae.o ab.o (ϕ _));obtain⟨⟨v4,au,_⟩,_⟩:=I;have af:=κ au;clear au ay;have az:=β2 (qj ac.o H.o))) | (go_at_call 95;((with_reducible refine(wk af.o src aw.o (by simp only[Ϗ,Mb,ϱ];omega)).mono ?_);rintro e w5 ⟨rfl,I⟩;have G:=κ (I.to_more af.o ac.o (ϕ _));obtain⟨⟨v5,av,_⟩,_⟩:=I;have ag:=κ av;clear av az;have aM:=β3 (qj G.o H.o);have aN:=β4 (qj G.o H.o);have aL:=β0 (qj G.o H.o))))
 clear ae af ab ac aj ak;have aD:Hid (w.heap.size+1<Y.heap.size):=κ (qq am.o);rw[I5] at ag;generalize Y.heap.size=W at *
 go_loopw [24] (λah wr=>ah= ι 0/\wr=w5) (λ_ _=>0)
 case atStart=>exact⟨rfl,rfl⟩
 case round=>
  obtain⟨rfl,rfl⟩:=hrel
  go_wp2_with (go_at_call 317;(go_call Ny _ as e w6 ⟨rfl,rfl⟩))
  go_loopw [40] (λah aK=>ah= ι 0/\aK=w6) (λ_ _=>0)
  case atStart=>exact⟨rfl,rfl⟩
  case round=>
   obtain⟨rfl,rfl⟩:=hrel
   go_wp2_with (first | (go_at_call 318;(go_call Re _ as e aV ⟨rfl,rfl⟩)) | (go_at_call 97;(go_call gW ag.o (by rw[Qu];decide) as e aa ⟨v51,rfl,U,ai⟩;rw[Qu] at U;have ad:=κ U;have ax:=κ ai;have d:=κ (qj ai (qj G.o am.o));obtain⟨J,c5,rfl,-⟩:=Dn U;clear U ai;have aO:=β0 d.o;have aP:=β1 d.o;have aQ:=β2 d.o;have aR:=ql d.o 0;have aS:=ql d.o 1;have aT:=ql d.o 2)))
   have N:=GS d.o (υ 1) (υ 206) (δ J 8 c5);have aq:=(((an.o.trans G.o).trans ax.o)).st3 (w.heap.size+1) τ (υ 1) (υ 206) (δ J 8 c5);have a3:qk (λb=>b=w.heap.size+1) aa (((aa.setCell ⟨w.heap.size+1,0,ϋ⟩ (υ 1)).setCell ⟨w.heap.size+1,1,ϋ⟩ (υ 206)).setCell ⟨w.heap.size+1,2,ϋ⟩ (δ J 8 c5)):=
    (((qk.refl (λb=>b=w.heap.size+1) aa).set (p:=⟨w.heap.size+1,0,ϋ⟩) rfl _).set (p:=⟨w.heap.size+1,1,ϋ⟩) rfl _).set (p:=⟨w.heap.size+1,2,ϋ⟩) rfl _
   have ar:=Zx ad.o a3 (λb aE e=>by have aA:=jP ad.o aE;have aB:=G.o.size;have aC:=aD.o;have aU:=qq ag.o.blk;omega);obtain⟨WF,ao⟩:=ν ((((aa.setCell ⟨w.heap.size+1,0,ϋ⟩ (υ 1)).setCell ⟨w.heap.size+1,1,ϋ⟩ (υ 206)).setCell ⟨w.heap.size+1,2,ϋ⟩ (δ J 8 c5)));rw[ao] at N aq ar ⊢;clear ao a3;have aH:=β0 N;have aI:=β1 N;have aJ:=β2 N
   (refine bodyPost_ret (v:= .tuple #[θ #[υ 1,υ 206,δ J 8 c5],ι 0]) ?rr1 rfl ?_;(case rr1=>(simp[results,results289,go_sem,aH,aI,aJ])))
   have aG:=SlI.of_owns (l:=qy 0 4++qy src 4) (by rw[Qu];exact ar) (by rw[Qu];decide);exact⟨_,_,rfl,aG,aq,λg aF=>by have aA:=jP ad.o aF;have aB:=G.o.size;have aC:=an.o.size;omega⟩
def Ll (src:Int) (w:World):Calls prog 287 #[θ #[ι 2,ύ,ω 0,ω 0,ω 0,ω 0,ω 0,ω 0,(),ι 1,ω 0,ω src,(),(),υ 0,υ 0,()]] w λe w'=>e= .returned (μ ό)/\qh w w':=by
 go_enter func287,ntmps287
 go_wp2_with (first | (go_at_call 313;(go_call Nz _ as e w1 ⟨rfl,m⟩;have G:=κ ((qh.alloc w _).trans m);have d:=κ (qj m (qp w _));obtain⟨⟨N,O,af,ag,ah,ai,aj,ak,al⟩,⟨am,U,Y,aa,ab⟩,ac,ad,ae⟩:=XC d.o;clear m)) | (go_at_call 311;(go_call NA _ as e w2 ⟨rfl,m⟩;have H:=κ (G.o.trans m);have J:=κ (qj m d.o);obtain⟨⟨N,O,af,ag,ah,ai,aj,ak,al⟩,⟨am,U,Y,aa,ab⟩,ac,ad,ae⟩:=XC J.o;clear m)) | (go_at_call 314;(go_call Cr src _ as e an ⟨rfl,m⟩;have I:=κ (H.o.trans m);clear m)))
 go_ret;exact⟨rfl,I.o⟩
def FY (src:Int) (ai:0<=src/\src<=4294967295) (w:World):Calls prog 259 #[θ #[ι 2,ύ,ω 0,ω 0,ω 0,ω 0,ω 0,ω 0,(),ι 1,ω 0,ω src,(),(),υ 0,υ 0,()]] w λe w'=> ∃ob cb,e= .returned (.tuple #[θ #[υ 1,υ 206,δ ob 8 cb],ι 0])/\SlI .u8 w' (δ ob 8 cb) (qy 0 4++qy src 4)/\qh w w'/\xg w (δ ob 8 cb):=by
 obtain⟨I,G⟩:=ν ((w.alloc (.cells #[ι 2,ύ,ω 0,ω 0,ω 0,ω 0,ω 0,ω 0,(),ι 1,ω 0,ω src,(),(),υ 0,υ 0,()] 293)).alloc (.cells #[υ 0,υ 0,()] 291));have ae:Hid (qh w I):=κ (by rw[<-G];exact Z0.al _);have aa:Hid (I.heap[w.heap.size]? =ϊ (.cells #[ι 2,ύ,ω 0,ω 0,ω 0,ω 0,ω 0,ω 0,(),ι 1,ω 0,ω src,(),(),υ 0,υ 0,()] 293)):=κ (by rw[<-G];exact qv (qp w _) _);have ad:Hid (I.heap[w.heap.size+1]? =ϊ (.cells #[υ 0,υ 0,()] 291)):=κ (by rw[<-G];exact qH η)
 go_enter func259,ntmps259
 go_upto_region 1 with fail
 (try rw[G])
 clear G;obtain⟨⟨aj,ak,av,aw,ax,ay,az,aA,aB⟩,⟨aC,am,an,ao,ap⟩,aq,ar,au⟩:=XC aa.o
 go_wp2_with (first | (go_at_call 287;(go_call Ll src _ as e w1 ⟨rfl,m⟩;have U:=κ (ae.o.trans m);have ah:=κ (qj m aa.o);have O:=κ (qj m ad.o);obtain⟨⟨aj,ak,av,aw,ax,ay,az,aA,aB⟩,⟨aC,am,an,ao,ap⟩,aq,ar,au⟩:=XC ah.o;clear m)) | (go_at_call 289;(go_call Nx src ai _ as e w2 ⟨o2,c2,rfl,s2,N,n2⟩;have ag:=κ s2;have Y:=κ n2;have af:=κ (U.o.trans N);have d:=κ (qj N O.o);have aG:=β0 d.o;have aH:=β1 d.o;have aI:=β2 d.o;have aJ:=ql d.o 0;have aK:=ql d.o 1;have aL:=ql d.o 2;clear s2 N n2)))
 have H:=GS d.o (υ 1) (υ 206) (δ o2 8 c2);have a3:qk (λb=>b=w.heap.size+1) w2 (((w2.setCell ⟨w.heap.size+1,0,ϋ⟩ (υ 1)).setCell ⟨w.heap.size+1,1,ϋ⟩ (υ 206)).setCell ⟨w.heap.size+1,2,ϋ⟩ (δ o2 8 c2)):=(((qk.refl (λb=>b=w.heap.size+1) w2).set (p:=⟨w.heap.size+1,0,ϋ⟩) rfl _).set (p:=⟨w.heap.size+1,1,ϋ⟩) rfl _).set (p:=⟨w.heap.size+1,2,ϋ⟩) rfl _;have ac:=qk.to_more af.o a3 (λb e=>by omega);have sf:=ag.o.off2 (λ_ b J (e:b=w.heap.size+1)=>by have:=Y.o b J;have:=qq O.o;omega) a3;obtain⟨WF,ab⟩:=ν ((((w2.setCell ⟨w.heap.size+1,0,ϋ⟩ (υ 1)).setCell ⟨w.heap.size+1,1,ϋ⟩ (υ 206)).setCell ⟨w.heap.size+1,2,ϋ⟩ (δ o2 8 c2)));rw[ab] at H ac sf ⊢;clear ab a3;have aD:=β0 H;have aE:=β1 H;have aF:=β2 H
 (refine bodyPost_ret (v:= .tuple #[θ #[υ 1,υ 206,δ o2 8 c2],ι 0]) ?rr2 rfl ?_;(case rr2=>(simp[results,results259,go_sem,aD,aE,aF])))
 exact⟨_,_,rfl,sf,ac,λb J=>ϙ U.o.size (Y.o b J)⟩
def Pe (n s:Int):Byt (qy n s):=by
 unfold qy;split
 ·exact XG _ _
 ·exact xB
def Ig (src:Int):xD (ZQ src):=⟨⟨by show (0:Int)<=1;decide,by show (1:Int)<=255;decide⟩,⟨by show (0:Int)<=206;decide,by show (206:Int)<=255;decide⟩,yB (Pe 0 4) (Pe src 4)⟩
def Lm (src:Int) (av:0<=src/\src<=4294967295) (b cap:Nat) (w:World) (aK:b<w.heap.size) (ag:w.rangeAt b 0 [ι 2,ύ,ω 0,ω 0,ω 0,ω 0,ω 0,ω 0,(),ι 1,ω 0,ω src,(),(),υ 0,υ 0,()]):Calls prog 205 #[δ (ϊ ⟨b,0,ϋ⟩) 1 cap] w λe w'=> ∃vx,e= .returned (.tuple #[vx,ι 0])/\SlP 3 vd w' vx [ZQ src]/\qh w w':=by
 obtain⟨aB,hi,aw,ax,ay⟩:=info_parts (P:=prog) (e:=291) (z:= θ #[υ 0,υ 0,()]) (size:=3) (bytes:=32) ξ;obtain⟨aC,aD,aE,aF,aG⟩:=info_parts (P:=prog) (e:=29) (z:= ι 0) (size:=1) (bytes:=8) ξ;have am:=κ ag;have an:Hid (ChJ w w (δ ϋ 0 0) (δ ϋ 0 0) [] []):=κ ⟨jd.nil _ _ _ _ _ _,World.ownsRow_nil _ _ _ _,qh.refl _⟩;clear ag
 go_enter func205,ntmps205
 go_wp2
 go_loopw [4,5,12] (λu v G wr=>(G= ι 0/\u= δ ϋ 0 0/\v= δ ϋ 0 0/\wr=w)∨(G= ι 1/\ ∃ac Y J ad aa N,u= δ ac Y J/\v= δ ad aa N/\ChJ w wr (δ ac Y J) (δ ad aa N) [ZQ src] [0])) (λ_ _ G _=>1-(intOf G).toNat)
 case atStart=>exact ϐ ⟨rfl,rfl,rfl,rfl⟩
 case round=>
  rcases hrel with ⟨rfl,rfl,rfl,rfl⟩ | ⟨rfl,ac,Y,J,ad,aa,N,rfl,rfl,af⟩
  ·go_wp2_with (first | (refine wpList_load_mid rfl 293 (.tmp 14) rfl b 0 rfl [ι 2,ύ,ω 0,ω 0,ω 0,ω 0,ω 0,ω 0,(),ι 1,ω 0,ω src,(),(),υ 0,υ 0,()] _ am.o underlying293 rfl ξ ?_) | (refine xd rfl 293 (.tmp 7) (.tmp 15) rfl wr _ #[ι 2,ύ,ω 0,ω 0,ω 0,ω 0,ω 0,ω 0,(),ι 1,ω 0,ω src,(),(),υ 0,υ 0,()] rfl rfl rfl ξ rfl rfl ?_) | (refine wpList_load_row rfl 293 (.tmp 7) rfl wr.heap.size rfl _ #[ι 2,ύ,ω 0,ω 0,ω 0,ω 0,ω 0,ω 0,(),ι 1,ω 0,ω src,(),(),υ 0,υ 0,()] _ _ (heap_alloc_new wr _) underlying293 rfl ξ ?_) | (go_at_call 259;(go_call FY src av _ as e w1 ⟨ab,ae,rfl,s1,ak,aH⟩;have aq:=κ s1;have ap:=κ ((qh.alloc wr (.cells #[ι 2,ύ,ω 0,ω 0,ω 0,ω 0,ω 0,ω 0,(),ι 1,ω 0,ω src,(),(),υ 0,υ 0,()] 293)).trans ak);have d:=κ ((an.o.on ap.o).on ((qh.alloc w1 (.cells #[υ 1,υ 206,δ ab 8 ae] 291)).al (.cells #[υ 1,υ 206,δ ab 8 ae] 291)));clear s1 ak aH)) | (at_builtin;refine jr _ rfl (.tmp 21) (.tmp 23) 385 rfl wr.heap.size 291 aB (θ #[υ 0,υ 0,()]) 3 32 underlying385 hi aw ax ay rfl ζ _ [] rfl d.o.row (w1.heap.size+1) [υ 1,υ 206,δ ab 8 ae] (ZQ src) rfl rfl (ze η) Z5 ((Aq (c:=ZQ src) aq.o (Ig src) (λ_ g _ h=>by rcases h with h | h<;>cases h)).on (Z0.al _)) (λb h=>Qv d.o.errs h) ζ ζ d.o.more.size ?_;intro aO w8 O ah au;have I:=κ (d.o.put O ah);obtain⟨aM,aL,aI,rfl,az,aA⟩:=O.shape;clear O ah au az aA) | (at_builtin;refine qR _ rfl (.tmp 25) (.tmp 27) 416 rfl wr.heap.size 29 aC (ι 0) 8 underlying416 aD aE aF aG rfl _ .i64 [] rfl (I.o.on Z0).errs _ [0] rfl (SlI.lit .i64 w8 [0] 29 _ 1 _ rfl rfl rfl η) η ζ (by have:=I.o.more.size;simp;omega) ?_;intro v9 w9 U ai aj;have ao:=κ ((I.o.on Z0).err (E':=[0]) U ai aj);obtain⟨aN,aJ,ar⟩:=j7 U;subst ar;clear U ai aj))
   go_roundw
   case rel=>exact ϓ ⟨by go_num,_,_,_,_,_,_,rfl,rfl,ao.o⟩
   case measure=>simp[intOf]
  ·have H:=κ af;clear af
   go_wp2_with (go_at_call 242;(go_call Qa [0] _ _ (SlI.of_owns H.o.errs ζ) as e aP ⟨rfl,rfl⟩))
   go_ret2
   exact⟨_,rfl,H.o.row.sl ζ,H.o.more⟩
def Ki (src:Int):[ZQ src].length<=100000/\ ∀i,i<[ZQ src].length->([ZQ src].getD i xL).2.2.1.length<=1000000:=by
 refine⟨η,λi hi=> ?_⟩;obtain rfl:i=0:=by simpa using hi
 show (qy 0 4++qy src 4).length<=1000000;rw[Qu]
 decide
def Lk (src:Int) (ab:0<=src/\src<=4294967295) {b t:Nat} (cap:Nat) (w:World) (G:w.heap[b]? =ϊ (.cells #[ι 2,ύ,ω 0,ω 0,ω 0,ω 0,ω 0,ω 0,(),ι 1,ω 0,ω src,(),(),υ 0,υ 0,()] t (0,0))):Calls prog 144 #[δ (ϊ ⟨b,0,ϋ⟩) 1 cap] w λe w'=> ∃d er,e= .returned (.tuple #[d,ι er])/\SlI .u8 w' d (uK src)/\qh w w'/\ ∀g,d.ownBlock=ϊ g->w.heap.size<=g:=by
 have N:=κ (Lm src ab b cap w (qq G) (λj v ac=>by rw[E9];exact qi G j (by simpa using ac)));clear G
 go_enter func144,ntmps144
 go_wp2_with (first | (go_at_call 205;(go_call N.o as e w1 ⟨d,rfl,s1,I⟩;have Y:=κ s1;have H:=κ I;clear s1 I)) | (go_at_call 206;(go_call Bc d [ZQ src] _ Y.o (Ki src).1 (Ki src).2 as e w2 ⟨ad,rfl,s2,J,n2⟩;have aa:=κ s2;have O:=κ (H.o.trans J);have U:=κ (λ(b:Nat) (hb:ad.ownBlock=ϊ b)=>ϙ H.o.size (n2 b hb));clear s2 J n2)))
 go_ret2
 exact⟨_,_,rfl,aa.o,O.o,U.o⟩
end
def FW (bj:qL w0 w k s F) (d o2:Int) (aK: ∀o v,qm s.tab.s o=ϊ v->0<=v/\v<=4294967295) (bB:s.reqs.length<=1000000):
  Calls prog 86 #[γ k.R,θ #[ι d,ι o2]] w λe w'=>e= .returned (.tuple #[])/\qL w0 w' k (s.request (d,o2)) F/\qA F w w':=by
 obtain⟨T,vp,bD,h⟩:=bj;obtain⟨W1,ae⟩:=ν (w.alloc (.cells #[ι d,ι o2] 58));have ap:Hid (qh w W1):=κ (by rw[<-ae];exact qh.alloc _ _);have aw:Hid (W1.heap[w.heap.size]? =ϊ (.cells #[ι d,ι o2] 58 (0,0))):=κ (by rw[<-ae];exact qp w _);have aa:=κ (h.on ap.o);have bh:=κ (h.at.stay ap.o);have ay:=κ h.fresh;obtain⟨src,ag⟩:=ν ((qm s.tab.s (d,o2)).getD 0)
 have bd:Hid (0<=src/\src<=4294967295):=κ (by
  rw[<-ag];cases hm:qm s.tab.s (d,o2) with
  | none=>exact⟨ζ,ζ⟩
  | some v=>exact aK _ v hm)
 have bc:Hid (s.request (d,o2)={s with reqs:=s.reqs++[⟨(d,o2),s.clock,uK src⟩]}):=κ (by unfold RmS.request;rw[ag]);have az:=κ (FT (aa.o.tab.more (qh.drewN W1 1)) (d,o2));rw[ag] at az;clear ag aK h;have aY:=λ(x:qu W1)=>β11 (qj x.h aa.o.blk)
 have am:=λ(x:qu W1)=>qj x.h aw.o
 have ai:=λx=>β0 (am x);have aj:=λx=>β1 (am x);clear am
 go_enter func86,ntmps86
 go_upto_region 1 with fail
 (try rw[ae])
 clear ae;refine Qn W1 11 11 [5] ?_
 refine Qq5 ?_
 (refine Ql ?_;intro K G)
 (with_reducible refine az.o.mono ?_)
 rintro e w2 ⟨rfl,aM⟩;have ad:Hid (qh W1 w2):=κ ((qh.drewN W1 1).trans aM);clear aM;refine⟨_,rfl,qo ad.o,G _ _ ?_⟩;clear G K
 iterate 5 (refine qz rfl rfl (qo ad.o) ?_;intro K G;go_big_quiet_op;go_big_quiet_on)
 refine qD ?_;clear aY ai aj;obtain⟨ar,af⟩:=ν ((w2.alloc (.cells #[ι 1,ω 0,ω src,(),()] 283)).alloc (.cells #[ι 2,ύ,ω 0,ω 0,ω 0,ω 0,ω 0,ω 0,(),ι 1,ω 0,ω src,(),(),υ 0,υ 0,()] 293));have aC:Hid (qh w2 ar):=κ (by rw[<-af];exact Z0.al _);have bg:Hid (ar.heap[w2.heap.size+1]? =ϊ (.cells #[ι 2,ύ,ω 0,ω 0,ω 0,ω 0,ω 0,ω 0,(),ι 1,ω 0,ω src,(),(),υ 0,υ 0,()] 293 (0,0))):=κ (by rw[<-af];exact qH η);have aB:=κ (Lk src bd.o 1 ar bg.o)
 go_upto_region 4 with (first | (refine xd rfl 283 (.tmp 6) (.tmp 19) rfl w2 _ #[ι 1,ω 0,ω src,(),()] rfl rfl rfl ξ rfl rfl ?_) | (refine wpList_load_row rfl 283 (.tmp 6) rfl w2.heap.size rfl _ #[ι 1,ω 0,ω src,(),()] _ _ (heap_alloc_new w2 _) underlying283 rfl ξ ?_) | ((try rw[af]);(go_at_call 144;(go_call aB.o as e w5 ⟨bE,bu,rfl,av,aN,aO⟩;have aD:=κ av;have be:Hid (qh w2 w5):=κ (aC.o.trans aN);have bf:=κ (λb H=>ϙ aC.o.size (aO b H));obtain⟨Y,U,rfl,_⟩:=id av;clear av aN aO))))
 clear af aB;have aq:Hid (qh W1 w5):=κ (ad.o.trans be.o);have aV:=aa.o.on aq.o;have bi:=κ (bh.o.trans (aa.o.at.stay aq.o));have bA:=aa.o.more.size
 obtain⟨I,aW,aF,aG⟩:=aV.data (λb=>uK src≠[]/\(δ Y (uK src).length U).ownBlock=ϊ b) (λb H=>by
  have bw:=bf.o b H.2;have bx:=ad.o.size;have bz:=ap.o.size
  exact⟨ay.o b τ,τ,aD.o.old H.1 H.2,λhF=>by have:=(aa.o.law b hF).2.2;omega⟩)
 have O:=κ aW;have aA:=κ aF;clear aW aF aV;have aX:=κ (qj aq.o aw.o);obtain⟨N,_,J,rfl,rfl,_⟩:=(O.o.all .reqs).1.shape;obtain⟨_,aL⟩:=O.o.all .reqs;have ak:=κ aL;clear aL;have aQ: ¬(δ N s.reqs.length J).ownBlock=ϊ k.R:=λe=>by have:=ak.o _ e;rw[(O.o.all .room).1] at this;cases this
 have aJ:I w.heap.size= .no∨I w.heap.size= .data:=by
  by_cases e:uK src≠[]/\(δ Y (uK src).length U).ownBlock=ϊ w.heap.size
  ·exact ϓ (aA.o _ e)
  ·exact ϐ (by rw[aG _ e];exact ay.o _ (ϕ _))
 have bs: ¬(δ N s.reqs.length J).ownBlock=ϊ w.heap.size:=λe=>by have:=ak.o _ e;rcases aJ with q | q<;>rw[q] at this<;>cases this
 clear aJ aG;have an:=λ(x:qC (λb=>(δ N s.reqs.length J).ownBlock=ϊ b) w5)=>x.h.blk O.o.blk aQ
 have aZ:=λx=>β15 (an x);have ba:=λx=>β9 (an x);clear an
 have ao:=λ(x:qC (λb=>(δ N s.reqs.length J).ownBlock=ϊ b) w5)=>x.h.blk aX.o bs
 have ai:=λx=>β0 (ao x);have aj:=λx=>β1 (ao x);clear ao
 obtain⟨br,hi,bo,bp,bq⟩:=info_parts (P:=prog) (e:=296) (z:= θ #[ι 0,ι 0,ι 0,()]) (size:=4) (bytes:=48) ξ;refine QN (λb=>(δ N s.reqs.length J).ownBlock=ϊ b) w5 16 17 [12,13,14,16] ?_
 refine NW ?_
 clear aZ ba ai aj
 (refine Ql ?_;intro K G)
 refine⟨qn (((qk.refl _ w5).drewN 1).alc _),G _ _ ?_⟩;clear G K;have bn: ∀g,(δ N s.reqs.length J).ownBlock=ϊ g->I g= .reqs:=ak.o;have aT:=(((O.o.all .reqs).1.on (qh.drewN w5 1)).on (qh.alloc _ (.cells #[ι d,ι o2,ι s.clock,δ Y (uK src).length U] 296))).other (D':=λb=>(I b≠ .data/\I b≠ .reqs)/\b<w5.heap.size) (λb H=>ϐ H.1);have aU:=(aD.o.keep (qh.drewN w5 1)).keep (qh.alloc _ (.cells #[ι d,ι o2,ι s.clock,δ Y (uK src).length U] 296));have aS:jv RRq (λb=>((I b≠ .data/\I b≠ .reqs)/\b<w5.heap.size)∨(δ N s.reqs.length J).ownBlock=ϊ b) ((w5.drewN 1).alloc (.cells #[ι d,ι o2,ι s.clock,δ Y (uK src).length U] 296)) [ι d,ι o2,ι s.clock,δ Y (uK src).length U] ⟨(d,o2),s.clock,uK src⟩:=λw' a=>
  ⟨_,rfl,aU.off2 (λbm b H ac=>by
   have e:=aA.o b ⟨bm,H⟩;rcases ac with ac | ac
   ·exact ac.1.1 e
   ·rw[bn b ac] at e;cases e) a⟩
 refine jY rfl rfl ?_;intro K G
 refine ym (.tmp 31) (.tmp 39) 93 rfl 0 296 br (θ #[ι 0,ι 0,ι 0,()]) 4 48 underlying93 hi bo bp bq rfl ζ _ s.reqs rfl aT w5.heap.size [ι d,ι o2,ι s.clock,δ Y (uK src).length U] ⟨(d,o2),s.clock,uK src⟩ rfl rfl (uB rfl) Z5 aS (λb H=>by
  have:=H.2;have:=(((qh.drewN w5 1)).al (.cells #[ι d,ι o2,ι s.clock,δ Y (uK src).length U] 296)).size
  omega) ζ τ (Ϻ _) ?_
 intro bC w6 au aI aH;have ab:Hid (qk (λb=>(δ N s.reqs.length J).ownBlock=ϊ b) w5 w6):=κ ((((qk.refl _ w5).drewN 1).alc _).trans (qk.of_grown aI));obtain⟨aR,aP,aE,rfl,bk,bl⟩:=au.shape;have ah:=κ (ab.o.blk O.o.blk aQ);have bb:(I k.R≠ .data/\I k.R≠ .reqs)/\k.R<w5.heap.size:=⟨by rw[(O.o.all .room).1];exact⟨η,η⟩,O.o.lt⟩;have ax:=κ (O.o.reqsPut (y:=⟨(d,o2),s.clock,uK src⟩) ((ab.o.mono (S':=λb=>(δ N s.reqs.length J).ownBlock=ϊ b∨b=k.R) (λb H=>ϐ H)).set (p:=⟨k.R,15,ϋ⟩) (ϓ rfl) (δ aR aP aE)) (((qh.drewN w5 1)).al (.cells #[ι d,ι o2,ι s.clock,δ Y (uK src).length U] 296)).size (au.step (qk.set (S:=λb=>(I b≠ .data/\I b≠ .reqs)/\b<w5.heap.size) (qk.refl _ _) (p:=⟨k.R,15,ϋ⟩) bb (δ aR aP aE))) aH (qF (qt ah.o 15 _) rfl));have bt:w6.cell? ⟨k.R,15,ϋ⟩=ϊ (δ N s.reqs.length J):=qi ah.o 15 rfl;have bv:w6.frozen? ⟨k.R,15,ϋ⟩=ύ:=ql ah.o 15;clear au aI aH aT aS aU bk bl;refine⟨qn ab.o,G _ _ ?_⟩;clear G K;go_simp
 (refine Ql ?_;intro K G)
 refine⟨qn ab.o,G _ _ ?_⟩;clear G K
 iterate 1 (refine qz rfl rfl (qn ab.o) ?_;intro K G;go_big_quiet_op;go_big_quiet_on)
 (refine Qe ?_;intro K G)
 refine G _ _ ?_;clear G K;refine qD ?_;go_wp2
 (refine bodyPost_end (v:= .tuple #[]) ?re1 rfl ?_;(case re1=>simp[results,results86,go_sem]))
 exact⟨rfl,by rw[bc.o];exact ax.o.1,bi.o.trans ax.o.2⟩
def xo {P:Program} {o:Oper} {a:Act} {C:World->Prop} {K:Act->World->Prop} (G:TypeId) (x y:Operand) (J:o.op= .store G x y)
  (g:Nat) (t:TypeId) (c d:Array Value) (I:w.heap[g]? =ϊ (.cells c t (0,0))) (O:a.eval x= γ g) (U:a.eval y= θ d)
  (hi:(P.info? G).map (·.size)=ϊ d.size) (N:c.size=d.size) (H:d.all (·.oneCell')=ό)
  (h:C (w.setRow g d)/\K (a.put o.dst undef) (w.setRow g d)):jt P C o a w K:=by
 unfold jt execOp;simp only[J,O,U,Instr.storeAt,Instr.sureAddr,Sem.run_bind,Sem.run_pure,Result.andThen_ok,run_storeVar_row w g t G c d I hi N H];exact h
def qh.row (h:qh w w') {g:Nat} (G:w.heap.size<=g) (cs:Array Value):qh w (w'.setRow g cs):=qk.to_more h (qk.setRow w' g cs) (λb d=>by rw[d];exact G)
def Tk.subs {m:Nat} (h:Tk m d s s') (k:zu s):zu s':=⟨by rw[h.tab];exact k.keys,by rw[h.tab,h.lanes];exact k.lane,by rw[h.tab];exact k.few⟩
def qT.subs (h:qT n s) (d:n<=1000):zu s:=⟨h.tb.keys,h.tb.lane,ϙ h.num.few τ⟩
def LV (aW:qL w0 w k s F) (bI:qT n s) (cv:n<=1000):
  Calls prog 34 #[γ k.R] w λe w'=>e= .returned (ι s.tick.2)/\qL w0 w' k s.tick.1 F/\qA F w w':=by
 have bm:=κ aW;have ao:=κ bI;obtain⟨vp,cD,aB⟩:=aW.blk;have bD:=β7 aB;have cp:=β9 aB;have cr:=ql aB 9;obtain⟨cq,bb⟩:=ν (s.closed);rw[bb] at bD;have bn:=κ bb;clear bb aB aW bI;cases cq with
 | true=>
  have aD:Hid (s.tick=(s,7)):=κ (by unfold RmS.tick;rw[ϒ bn.o]);rw[aD.o]
  go_enter func34,ntmps34
  go_wp2;go_ret;exact⟨rfl,bm.o,qA.refl _ _⟩
 | false=>
  obtain⟨cP,cQ⟩:=ao.o.num.clock;have aQ:=κ (bm.o.cell 9 (ι (s.clock+1)) (s':={s with clock:=s.clock+1}) (λ_ _=>rfl) ⟨rfl,rfl,rfl,rfl,rfl,rfl,rfl,rfl,rfl⟩);obtain⟨s1,aM⟩: ∃s1:RmS,{s with clock:=s.clock+1}=s1:=⟨_,rfl⟩;obtain⟨J,bc⟩:=ν (s.origins);have aD:Hid (s.tick=(J.foldl RmS.tick1 s1,0)):=κ (by unfold RmS.tick;rw[ώ (by rw[bn.o];decide),bc,aM])
  have ar:Hid (zu s1/\yb s1.cfg=ό/\(0<=s1.clock/\s1.clock<=1001)/\(∀o t,qm s1.strs o=ϊ t->0<=t.asks.tries/\t.asks.tries<=9000/\0<=t.asks.last/\t.asks.last<=1000)/\s1.reqs.length<=9000/\(∀o v,qm s1.tab.s o=ϊ v->0<=v/\v<=4294967295)/\s1.origins=J):=κ (by
   rw[<-aM];have ct:=ao.o.num.asks;have aL:=ao.o.num.reqs;have be:=ao.o.subs cv
   exact⟨⟨be.keys,be.lane,be.few⟩,ao.o.num.cfg,by simp only;omega,λo t az=>by have:=ct o t az;omega,by simp only;omega,ao.o.tb.src,bc⟩)
  obtain⟨W1,aY⟩:=ν (w.setCell ⟨k.R,9,ϋ⟩ (ι (s.clock+1)));rw[aM,aY] at aQ;obtain⟨T,vp,cD,bO⟩:=aQ.o.1;have bv:=κ bO;have bq:=κ bv.o.orgsF;rw[ar.o.2.2.2.2.2.2] at bq;clear bO aM bc
  go_enter func34,ntmps34
  go_wp2_with ((try rw[aY]);(go_at_call 64;(go_call bq.o as e w2 ⟨db,cap,Fn,rfl,bG,bW,bS,bL⟩;have cf:=κ bL;have cb:=κ bW.at;have ch:=κ bS;have cc:=κ bG;clear bL bW bS bG)))
  clear aY cp cr bD;have cj:=κ (aQ.o.2.trans (bv.o.at.stay ch.o));have da:=cc.o
  go_loopw [22] (λbh wr=> ∃j:Nat,j<=J.length/\bh= ι j/\qL w0 wr k ((J.take j).foldl RmS.tick1 s1) (Fn++F)/\qA (Fn++F) w2 wr) (λbh _=>J.length-(intOf bh).toNat)
  case atStart=>exact⟨0,τ,rfl,cb.o,qA.refl _ _⟩
  case round=>
   obtain⟨j,cZ,rfl,aL,az⟩:=hrel;have aS:=κ az;by_cases hlt:j<J.length
   ·have cu:(j:Int)<(J.length:Int):=by omega
    obtain⟨g,rfl,bC,c1⟩:=cf.o wr (λb aa=>az.2 b (by simp[aa])) j hlt;have bu:Hid (J.take (j+1)=J.take j++[J[j]]):=κ (by rw[A9,ϖ hlt];rfl);have am:=κ (kM (J.take j) s1);have bJ:(J.take j).length<=9:=by rw[ϛ];omega
    have bp:=κ bJ;obtain⟨ts,bN⟩: ∃t,qm s1.strs J[j]=ϊ t:=kp (by rw[ar.o.2.2.2.2.2.2];exact Ϣ hlt);generalize J[j]=o at *;generalize bM:(J.take j).foldl RmS.tick1 s1=sj at *;have bt:=κ bM;clear bM az bJ;obtain⟨t,bf⟩: ∃t,qm sj.strs o=ϊ t:=by
     have:=vR (am.o.strs o);rw[bN] at this;exact Ϟ.1 this
    have aE:=κ bf;have bH:zu sj/\(1<=sj.cfg.space/\sj.cfg.space<=sj.cfg.retry/\sj.cfg.retry<=1000)/\xQ sj.clock/\(0<=t.asks.tries/\t.asks.tries<=1000000/\xQ t.asks.last):=by
     obtain⟨cw,cx,dg,cy,dh,di,dj⟩:=ar.o;obtain⟨t0,a0,cn,co,ay⟩:=am.o.asks o t bf;obtain⟨bE,cS,cT,cU⟩:=cy o t0 a0;rw[ϒ bE] at co;have:=bp.o;refine⟨am.o.subs cw,by rw[am.o.cfg];exact(vN cx).2.2.1,by rw[am.o.clock];exact⟨τ,τ⟩,cn bE,τ, ?_⟩;rcases ay with ay | ay<;>rw[ay]<;>exact⟨τ,τ⟩
    have ak:=κ bH;have cg:Hid (∀o v,qm sj.tab.s o=ϊ v->0<=v/\v<=4294967295):=κ (by rw[am.o.tab];exact ar.o.2.2.2.2.2.1);have ce:Hid (sj.reqs.length<=1000000):=κ (by have:=am.o.reqs;have:=ar.o.2.2.2.2.1;have:=bp.o;omega);clear bH bN bf;obtain⟨I,o2⟩:=o;simp only at bC c1;obtain⟨ah,aK⟩:=ν (wr.alloc (.cells #[ι I,ι o2] 58));have bx:Hid (qh wr ah):=κ (by rw[<-aK];exact qh.alloc _ _);have aA:Hid (ah.heap[wr.heap.size]? =ϊ (.cells #[ι I,ι o2] 58 (0,0))):=κ (by rw[<-aK];exact qp wr _);have bA:=κ (aL.stay bx.o);obtain⟨cl,cC,cE,bP⟩:=aL;have aX:RmX cl w0 ah k cC cE sj ([wr.heap.size]++(Fn++F)):=bP.adds bx.o (λb aa=>by simp at aa;subst aa;exact⟨ϕ _,lt_of_block aA.o⟩);have aF:=κ aX;obtain⟨p,cI,v,bK,bQ⟩:=aX.strAt aE.o;have bw:=κ bQ;have bs:=κ bK;have bY:=λ(x:qu ah)=>β13 (qj x.h aF.o.blk)
    have aU:=λ(x:qu ah)=>qj x.h aA.o
    have bk:=λx=>β0 (aU x);have bl:=λx=>β1 (aU x);clear aU
    have bZ: ∀x:qu ah,(Instr.lookup 91 (.map (ϊ k.MS)) (θ #[ι I,ι o2]) ύ).run prog x.w'= .ok (γ p) x.w':=λx=>by
     have:=yU (aF.o.stm.more x.h) (I,o2) ύ;rw[bs.o] at this;exact this
    clear bP aX bQ bK
    go_upto_region 7 with fail
    (try rw[aK])
    clear aK bC c1;refine Qn ah 7 7 [] ?_
    refine Qq7 ?_
    refine qD ?_;clear bY bZ bk bl
    go_upto_region 8 with fail
    obtain⟨G,ba⟩:=ν (ah.drewN 1);have aw:Hid (qh ah G):=κ (by rw[<-ba];exact qh.drewN _ 1);have aG:=κ (aF.o.on aw.o);have ck:=κ (aF.o.at.stay aw.o)
    (try rw[ba])
    clear ba;obtain⟨bV,bg⟩:=ν (sj.wants (I,o2));have aT:=κ (λw' (m:qh G w')=>La (aG.o.on m) ak.o.1 I o2 aE.o);rw[bg] at aT;obtain⟨cz,bd⟩:=ν (vY sj.cfg.space sj.cfg.retry t.asks bV sj.clock);have au:=κ (λw'=>FO sj.cfg.space sj.cfg.retry t.asks bV sj.clock ak.o.2.1.1 ak.o.2.1.2.1 ak.o.2.1.2.2 ak.o.2.2.2.1 ak.o.2.2.2.2.1 ak.o.2.2.2.2.2 ak.o.2.2.1 w');rw[bd] at au;obtain⟨⟨Y,N,O,U⟩,bi⟩:=cz;simp only at au;have bo:Hid (sj.tick1 (I,o2)=if bi then ({sj with strs:=qB sj.strs (I,o2) {t with asks:=⟨Y,N,O,U⟩}}:RmS).request (I,o2) else {sj with strs:=qB sj.strs (I,o2) {t with asks:=⟨Y,N,O,U⟩}}):=κ (by unfold RmS.tick1;rw[aE.o];simp only[bg,bd]);clear bg bd
    go_cut [6,7] from 32 to 51 (λcA cB ac=> ∃A,cA= γ A/\cB= μ bi/\ac.heap[A]? =ϊ (.cells #[μ Y,N,ι O,ι U] 174 (0,0))/\qh G ac)
    case first=>
     have aH:=λ(x:qu G)=>qj x.h aG.o.blk
     have cF:=λx=>β4 (aH x);have cG:=λx=>β5 (aH x);have cH:=λx=>β9 (aH x);clear aH
     have av:=λ(x:qu G)=>qj (aw.o.trans x.h) bw.o.blk
     have cJ:=λx=>β3 (av x);have cK:=λx=>β4 (av x);have cL:=λx=>β5 (av x);have S6:=λx=>β6 (av x);clear av
     have aV:=λ(x:qu G)=>qj (aw.o.trans x.h) aA.o
     have bk:=λx=>β0 (aV x);have bl:=λx=>β1 (aV x);clear aV
     refine ye G 23 (.op 0 ύ (.op 1 ύ (.op 2 ύ (.op 3 ύ (.op 4 ύ (.op 5 ύ (.op 6 ύ (.op 7 ύ (.op 8 ύ (.op 9 ύ (.op 10 ύ (.op 12 ύ (.op 13 ύ (.op 14 ύ (.op 15 ύ (.br [11,20] λk=>if k=11 then .br [16,20] λk=>if k=16 then .op 17 ύ (.op 18 ύ (.op 19 ύ (.op 20 ό (.op 21 ό (.op 22 ύ (.done)))))) else .op 16 ό (.op 17 ύ (.op 18 ύ (.op 19 ύ (.op 21 ό (.op 22 ύ (.done)))))) else .op 11 ό (.op 16 ό (.op 17 ύ (.op 18 ύ (.op 19 ύ (.op 21 ό (.op 22 ύ (.done))))))))))))))))))))))) ξ ξ ?_
     repeat (first | (refine jl rfl rfl (qo ρ) ?_) | (refine qK rfl rfl (qo ρ) ?_;intro K d;go_big_quiet_op;go_big_quiet_on))
     refine gK ζ ?_ ?_
     ·(refine qV rfl rfl ?_;intro K d;unfold jt;go_simp)
      refine(aT.o _ (qh.drewN G 1)).mono ?_;rintro e w5 ⟨rfl,bT⟩;have ax:Hid (qh G w5):=κ ((qh.drewN G 1).trans bT);clear bT;refine⟨_,rfl,qo ax.o,d _ _ ?_⟩;clear d K;refine gK ζ ?_ ?_
      ·(refine qV rfl rfl ?_;intro K d;unfold jt;go_simp)
       refine(au.o _).mono ?_;rintro e ac ⟨rfl,ap⟩;have ag:=κ (ax.o.trans ap);clear ap;refine⟨_,rfl,qo ag.o,d _ _ ?_⟩;clear d K
       repeat (first | (refine jl rfl rfl (qo ag.o) ?_) | (refine qK rfl rfl (qo ag.o) ?_;intro K d;go_big_quiet_op;go_big_quiet_on))
       (refine qV rfl rfl ?_;intro K d;unfold jt;go_simp)
       refine⟨qo (ag.o.al _),d _ _ ?_⟩;clear d K;obtain⟨A,ab⟩:=ν (ac.heap.size);obtain⟨w9,aN⟩:=ν (ac.alloc (.cells #[μ ύ,ύ,ι 0,ι 0] 174));have aj:Hid (w9.heap[A]? =ϊ (.cells #[μ ύ,ύ,ι 0,ι 0] 174 (0,0))):=κ (by rw[<-aN,<-ab];exact qp ac _);have ad:Hid (qh G w9):=κ (by rw[<-aN];exact ag.o.al _);have aq:Hid (G.heap.size<=A):=κ (by rw[<-ab];exact ag.o.size)
       (try rw[aN])
       (try rw[ab])
       clear aN ab;refine qV rfl rfl ?_;intro K d;have H:=κ (ad.o.row aq.o #[μ Y,N,ι O,ι U]);have ae:=κ (jG aj.o #[μ Y,N,ι O,ι U]);refine xo 174 (.tmp 6) (.tmp 50) rfl A 174 _ #[μ Y,N,ι O,ι U] aj.o rfl rfl ξ rfl Z5 ?_;refine⟨qo H.o,d _ _ ?_⟩;clear d K;go_simp
       repeat (first | (refine jl rfl rfl (qo H.o) ?_) | (refine qK rfl rfl (qo H.o) ?_;intro K d;go_big_quiet_op;go_big_quiet_on))
       refine zD ?_;go_wp2;go_meet;exact⟨A,rfl,rfl,ae.o,H.o⟩
      ·(refine qV rfl rfl ?_;intro K d;unfold jt;go_simp)
       refine⟨qo (ax.o.al _),d _ _ ?_⟩;clear d K;obtain⟨A,ab⟩:=ν (w5.heap.size);obtain⟨w8,ai⟩:=ν (w5.alloc (.cells #[μ ύ,ύ,ι 0,ι 0] 174));have aP:Hid (w8.heap[A]? =ϊ (.cells #[μ ύ,ύ,ι 0,ι 0] 174 (0,0))):=κ (by rw[<-ai,<-ab];exact qp w5 _);have aI:Hid (qh G w8):=κ (by rw[<-ai];exact ax.o.al _);have aq:Hid (G.heap.size<=A):=κ (by rw[<-ab];exact ax.o.size)
       (try rw[ai])
       (try rw[ab])
       clear ai ab
       (refine qV rfl rfl ?_;intro K d;unfold jt;go_simp)
       refine(au.o _).mono ?_;rintro e w9 ⟨rfl,an⟩;have ad:=κ (aI.o.trans an);have aj:=κ (qj an aP.o);clear an;refine⟨_,rfl,qo ad.o,d _ _ ?_⟩;clear d K
       repeat (first | (refine jl rfl rfl (qo ad.o) ?_) | (refine qK rfl rfl (qo ad.o) ?_;intro K d;go_big_quiet_op;go_big_quiet_on))
       refine qV rfl rfl ?_;intro K d;have H:=κ (ad.o.row aq.o #[μ Y,N,ι O,ι U]);have ae:=κ (jG aj.o #[μ Y,N,ι O,ι U]);refine xo 174 (.tmp 6) (.tmp 50) rfl A 174 _ #[μ Y,N,ι O,ι U] aj.o rfl rfl ξ rfl Z5 ?_;refine⟨qo H.o,d _ _ ?_⟩;clear d K;go_simp
       repeat (first | (refine jl rfl rfl (qo H.o) ?_) | (refine qK rfl rfl (qo H.o) ?_;intro K d;go_big_quiet_op;go_big_quiet_on))
       refine zD ?_;go_wp2;go_meet;exact⟨A,rfl,rfl,ae.o,H.o⟩
     ·(refine qV rfl rfl ?_;intro K d;unfold jt;go_simp)
      refine⟨qo ((qh.drewN G 1).al _),d _ _ ?_⟩;clear d K;obtain⟨ac,aO⟩: ∃ac:World,G.drewN 1=ac:=⟨_,rfl⟩;have ag:Hid (qh G ac):=κ (by rw[<-aO];exact qh.drewN G 1)
      (try rw[aO])
      (try rw[show G.heap.size=ac.heap.size from by rw[<-aO];rfl])
      clear aO;obtain⟨A,ab⟩:=ν (ac.heap.size);obtain⟨w8,ai⟩:=ν (ac.alloc (.cells #[μ ύ,ύ,ι 0,ι 0] 174));have aP:Hid (w8.heap[A]? =ϊ (.cells #[μ ύ,ύ,ι 0,ι 0] 174 (0,0))):=κ (by rw[<-ai,<-ab];exact qp ac _);have aI:Hid (qh G w8):=κ (by rw[<-ai];exact ag.o.al _);have aq:Hid (G.heap.size<=A):=κ (by rw[<-ab];exact ag.o.size)
      (try rw[ai])
      (try rw[ab])
      clear ai ab
      (refine qV rfl rfl ?_;intro K d;unfold jt;go_simp)
      refine(aT.o _ aI.o).mono ?_;rintro e w6 ⟨rfl,ap⟩;have bz:=κ (aI.o.trans ap);have bX:=κ (qj ap aP.o);clear ap;refine⟨_,rfl,qo bz.o,d _ _ ?_⟩;clear d K
      (refine qV rfl rfl ?_;intro K d;unfold jt;go_simp)
      refine(au.o _).mono ?_;rintro e w9 ⟨rfl,an⟩;have ad:=κ (bz.o.trans an);have aj:=κ (qj an bX.o);clear an;refine⟨_,rfl,qo ad.o,d _ _ ?_⟩;clear d K
      repeat (first | (refine jl rfl rfl (qo ad.o) ?_) | (refine qK rfl rfl (qo ad.o) ?_;intro K d;go_big_quiet_op;go_big_quiet_on))
      refine qV rfl rfl ?_;intro K d;have H:=κ (ad.o.row aq.o #[μ Y,N,ι O,ι U]);have ae:=κ (jG aj.o #[μ Y,N,ι O,ι U]);refine xo 174 (.tmp 6) (.tmp 50) rfl A 174 _ #[μ Y,N,ι O,ι U] aj.o rfl rfl ξ rfl Z5 ?_;refine⟨qo H.o,d _ _ ?_⟩;clear d K;go_simp
      repeat (first | (refine jl rfl rfl (qo H.o) ?_) | (refine qK rfl rfl (qo H.o) ?_;intro K d;go_big_quiet_op;go_big_quiet_on))
      refine zD ?_;go_wp2;go_meet;exact⟨A,rfl,rfl,ae.o,H.o⟩
    case rest=>
    obtain⟨A,rfl,rfl,bB,bR⟩:=hcut;have ae:=κ bB;have H:=κ bR;clear bB bR;have cm:=κ (aG.o.on H.o);have af:=κ (bw.o.on (aw.o.trans H.o));have a0:=β0 ae.o;have cN:=β1 ae.o;have cO:=β2 ae.o;have a3:=β3 ae.o;have dc:=β3 af.o.blk;have dd:=β4 af.o.blk;have de:=β5 af.o.blk;have df:=β6 af.o.blk;have cV:=ql af.o.blk 3;have cW:=ql af.o.blk 4;have cX:=ql af.o.blk 5;have cY:=ql af.o.blk 6;have aC:=κ (cm.o.strSet (t':={t with asks:=⟨Y,N,O,U⟩}) aE.o bs.o af.o ((((qk.set (S:=λb=>b=p) (qk.refl _ _) (p:=⟨p,3,ϋ⟩) rfl (μ Y)).set (p:=⟨p,4,ϋ⟩) rfl (μ N)).set (p:=⟨p,5,ϋ⟩) rfl (ι O)).set (p:=⟨p,6,ϋ⟩) rfl (ι U)) (qF (qt (qt (qt (qt af.o.blk 3 _) 4 _) 5 _) 6 _) rfl) rfl);have aJ:=κ (ck.o.trans ((aG.o.at.stay H.o).trans aC.o.2));obtain⟨cM,aZ⟩:=ν (((((wc.setCell ⟨p,3,ϋ⟩ (μ Y)).setCell ⟨p,4,ϋ⟩ (μ N)).setCell ⟨p,5,ϋ⟩ (ι O)).setCell ⟨p,6,ϋ⟩ (ι U)));rw[aZ] at aC aJ;have bj:=κ (aJ.o.blk η aA.o);have ay:=β0 bj.o;have cR:=β1 bj.o;cases bi with
    | false=>
     have aR:Hid (sj.tick1 (I,o2)={sj with strs:=qB sj.strs (I,o2) {t with asks:=⟨Y,N,O,U⟩}}):=κ (by rw[bo.o];rfl);go_wp2
     (try rw[aZ])
     go_roundw
     case rel=>exact⟨j+1,τ,by go_num,by rw[bu.o,Δ,bt.o];show qL w0 _ k (sj.tick1 (I,o2)) _;rw[aR.o];exact aC.o.1.sub (λb aa=>ϔ _ aa),aS.o.trans (bA.o.trans (aJ.o.sub (λb aa=>ϔ _ aa)))⟩
     case measure=>simp[intOf];omega
    | true=>
     have aR:Hid (sj.tick1 (I,o2)=({sj with strs:=qB sj.strs (I,o2) {t with asks:=⟨Y,N,O,U⟩}}:RmS).request (I,o2)):=κ (by rw[bo.o];rfl);have cd:=κ (FW aC.o.1 I o2 cg.o ce.o)
     go_wp2_with ((try rw[aZ]);(go_at_call 86;(go_call cd.o as e dk ⟨rfl,bF,bU⟩;have ca:=κ bF;have ci:=κ bU;clear bF bU)))
     go_roundw
     case rel=>exact⟨j+1,τ,by go_num,by rw[bu.o,Δ,bt.o];show qL w0 _ k (sj.tick1 (I,o2)) _;rw[aR.o];exact ca.o.sub (λb aa=>ϔ _ aa),aS.o.trans (bA.o.trans ((aJ.o.trans ci.o).sub (λb aa=>ϔ _ aa)))⟩
     case measure=>simp[intOf];omega
   ·obtain rfl:j=J.length:=by omega
    have cu: ¬(J.length:Int)<(J.length:Int):=by omega
    go_wp2;go_ret;exact⟨by rw[aD.o];rfl,by rw[aD.o];have:=aL;rw[ϭ] at this;exact this.sub (λb aa=>ϔ _ aa),cj.o.trans (aS.o.sub (λb aa=>ϔ _ aa))⟩
section
open _root_.Go.Proofs.Tryz renaming func170->Ξa,ntmps170->Ξb
def NI {l:List Int} (x:Int) (s:SlI .i64 w v l):Calls prog 170 #[v,ι x] w (Pz x l w):=Ψ8
end
def Rg {l:List Int} (x:Int) (s:SlI .i64 w v l):Calls prog 117 #[v,ι x] w λe w'=>e= .returned (μ (decide (x∈l)))/\w=w':=by
 go_enter func117,ntmps117
 go_wp2_with (go_at_call 170;(go_call NI x s as e w2 ⟨n,d,H,rfl,rfl⟩;have G:=κ d;clear d))
 go_ret;exact⟨jq (by rw[F2];simp only[C2];exact G.o),rfl⟩
def wkL (L M:List Int):List Og:=(0,0)::(1,0)::(M.filter λx=>decide (x∈L)).flatMap λx=>[(2,x),(3,x),(4,x)]
def GG (L M:List Int):(wkL L M).length<=2+3* M.length:=by
 unfold wkL;have h: ∀d:List Int,(d.flatMap λx=>[((2,x):Og),(3,x),(4,x)]).length=3* d.length:=by
  intro d
  induction d with
  | nil=>rfl
  | cons x d ih=>rw[List.flatMap_cons,Ϗ,ih,Ϙ,Ϙ,Ϙ,Ϙ,ϱ];omega
 have:=D2 (λx=>decide (x∈L)) M;rw[Ϙ,Ϙ,h];omega
def V8 (L M:List Int) (x:Int):wkL L (M++[x])=wkL L M++if x∈L then [(2,x),(3,x),(4,x)] else []:=by
 unfold wkL;rw[J0,P4];by_cases h:x∈L
 ·rw[ϒ h];simp[h]
 ·rw[ώ h];simp[h]
def Kd {j:Nat} (h:j<6):subIds.take (j+1)=subIds.take j++[(j:Int)]:=by
 have:j=0∨j=1∨j=2∨j=3∨j=4∨j=5:=by omega
 rcases this with rfl | rfl | rfl | rfl | rfl | rfl<;>rfl
def Wf (x:Int) (h:n<3):([(2,x),(3,x),(4,x)]:List Og).take (n+1)=([(2,x),(3,x),(4,x)]:List Og).take n++[(((2+n:Nat):Int),x)]:=by
 have:n=0∨n=1∨n=2:=by omega
 rcases this with rfl | rfl | rfl<;>rfl
def CA (w:World):jd 2 RO (λ_=>False) (w.alloc (.cells #[ι 0,ι 0,ι 1,ι 0] 37)) w.heap.size 37 (δ (ϊ ⟨w.heap.size,0,ϋ⟩) 2 2) [(0,0),(1,0)]:=
 ⟨⟨[ι 0,ι 0,ι 1,ι 0],⟨rfl,ϓ ⟨w.heap.size,2,_,rfl,ϕ _,qp w _,ϕ _,by unfold maxLen;omega,rfl,rfl⟩⟩,λi hi=>λw' _=>by
  have:i=0∨i=1:=by simp at hi;omega
  rcases this with rfl | rfl<;>rfl⟩,λb _ h=>h⟩
def UG {L:List Int} (s:SlI .i64 w v L):
  Calls prog 71 #[v] w λe w'=> ∃v',e= .returned v'/\jd 2 RO (λ_=>False) w' w.heap.size 37 v' (yO L)/\qh w w':=by
 obtain⟨aB,hi,aw,ax,ay⟩:=info_parts (P:=prog) (e:=37) (z:= θ #[ι 0,ι 0]) (size:=2) (bytes:=16) ξ;have ak:=κ s;obtain⟨aI,cap,rfl,_⟩:=id s;have e0:yO L=wkL L (subIds.take 6):=rfl;rw[e0];have ao:=κ (qh.alloc w (.cells #[ι 0,ι 0,ι 1,ι 0] 37));have aq:=κ (CA w);clear s e0
 go_enter func71,ntmps71
 go_wp2
 go_loopw [3,9] (λu ad wr=> ∃i:Nat,i<=6/\ad= ι i/\(∃J I H,u= δ J I H)/\jd 2 RO (λ_=>False) wr w.heap.size 37 u (wkL L (subIds.take i))/\qh w wr) (λ_ ad _=>6-(intOf ad).toNat)
 case atStart=>exact⟨0,τ,rfl,⟨_,_,_,rfl⟩,aq.o,ao.o⟩
 case round=>
  obtain⟨i,aF,rfl,⟨J,I,H,rfl⟩,U,O⟩:=hrel;have G:=κ U;have d:=κ O;clear U O;by_cases hlt:i<6
  ·have au:(i:Int)<6:=by omega
   have ae:=κ (Kd hlt);have af:=κ (GG L (subIds.take i));have an:Hid ((subIds.take i).length=i):=κ (by rw[ϛ];show min i 6=i;omega);have aa:=κ (Rg (i:Int) (ak.o.keep d.o));obtain⟨c,N⟩:=ν (decide ((i:Int)∈L));rw[N] at aa;cases c with
   | false=>
    have Y:Hid (wkL L (subIds.take (i+1))=wkL L (subIds.take i)):=κ (by rw[ae.o,V8,ώ (B9 N),Ω]);clear N
    go_wp2_with (go_at_call 117;(go_call aa.o as e w2 ⟨rfl,ab⟩;obtain rfl:=ab))
    go_roundw
    case rel=>exact⟨i+1,τ,by go_num,⟨_,_,_,rfl⟩,by rw[Y.o];exact G.o,d.o⟩
    case measure=>simp[intOf];omega
   | true=>
    have Y:Hid (wkL L (subIds.take (i+1))=wkL L (subIds.take i)++[(2,(i:Int)),(3,(i:Int)),(4,(i:Int))]):=κ (by rw[ae.o,V8,ϒ (Ϛ N)]);clear N;obtain⟨B,ag⟩:=ν (wkL L (subIds.take i));rw[ag] at Y af G;clear ag
    go_wp2_with (go_at_call 117;(go_call aa.o as e w2 ⟨rfl,ab⟩;obtain rfl:=ab))
    go_loopw [3,5] (λu st wr=> ∃n:Nat,n<=3/\st= ι ((2+n:Nat):Int)/\(∃J I H,u= δ J I H)/\jd 2 RO (λ_=>False) wr w.heap.size 37 u (B++([(2,(i:Int)),(3,(i:Int)),(4,(i:Int))]:List Og).take n)/\qh w wr) (λ_ st _=>5-(intOf st).toNat)
    case atStart=>exact⟨0,τ,rfl,⟨_,_,_,rfl⟩,by rw[Q6,Ω];exact G.o,d.o⟩
    case round=>
     clear G d;obtain⟨n,aG,rfl,⟨J,I,H,rfl⟩,U,O⟩:=hrel;have G:=κ U;have d:=κ O;clear U O;by_cases hltn:n<3
     ·have av:((2+n:Nat):Int)<=4:=by omega
      have am:=κ (Wf (i:Int) hltn);have ai:Hid (∀b,(δ J I H).ownBlock=ϊ b->w.heap.size<=b):=κ (λb h=>G.o.ge h);have aD:(B++([(2,(i:Int)),(3,(i:Int)),(4,(i:Int))]:List Og).take n).length<=23:=by
       have:=af.o;have:=an.o;rw[Ϗ,ϛ];show B.length+min n 3<=23;omega
      have aj:=κ (G.o.on (qh.alloc wr (.cells #[ι ((2+n:Nat):Int),ι (i:Int)] 37)))
      go_wp2_with (at_builtin;(refine jr (R:=RO) (D:=λ_=>False) _ rfl (.tmp 20) (.tmp 24) 98 rfl w.heap.size 37 aB (θ #[ι 0,ι 0]) 2 16 underlying98 hi aw ax ay rfl ζ _ (B++([(2,(i:Int)),(3,(i:Int)),(4,(i:Int))]:List Og).take n) rfl aj.o wr.heap.size [ι ((2+n:Nat):Int),ι (i:Int)] (((2+n:Nat):Int),(i:Int)) rfl rfl (ze η) Z5 (λw' _=>rfl) (λb h=>h.elim) ζ τ (d.o.al _).size ?_;intro v' w8 ac ah ar;have aC:Hid (qh w w8):=κ (Below.grown (d.o.al _) ah (d.o.al _).size ai.o);obtain⟨aJ,aH,aE,rfl,az,aA⟩:=ac.shape;have ap:=κ ac;clear ac ah ar az aA))
      go_roundw
      case rel=>exact⟨n+1,τ,by go_num,⟨_,_,_,rfl⟩,by rw[am.o,<-Ϫ];exact ap.o,aC.o⟩
      case measure=>simp[intOf];omega
     ·obtain rfl:n=3:=by omega
      have av: ¬((2+3:Nat):Int)<=4:=by omega
      go_wp2;go_roundw
      case rel=>exact⟨i+1,τ,by go_num,⟨_,_,_,rfl⟩,by rw[Y.o];exact G.o,d.o⟩
      case measure=>simp[intOf];omega
  ·obtain rfl:i=6:=by omega
   have au: ¬((6:Nat):Int)<6:=by omega
   go_wp2;go_ret;exact⟨_,rfl,G.o,d.o⟩
def PU:prog.eqGuardType prog.depth 37=ύ:=by kernel_rfl
def Hi (d G H I:Int) (w:World):(binOp .eql 37 (θ #[ι d,ι G]) (θ #[ι H,ι I])).run prog w= .ok (μ (decide (((d,G):Og)=(H,I)))) w:=by
 have h:(Op.equalIn 10000 37 (θ #[ι d,ι G]) (θ #[ι H,ι I])).run prog w= .ok (decide (((d,G):Og)=(H,I))) w:=YK (d,G) (H,I) w;rw[run_eql_struct,h];rfl
def Yf (w:World) (oa:Option Addr) (L:List Og):Prop:=L.length<=maxLen/\ ∀w',qh w w'-> ∀i (hi:i<L.length),∃b,oa=ϊ ⟨b,0,ϋ⟩/\w'.cell? ⟨b,i* 2,ϋ⟩=ϊ (.int .i64 L[i].1)/\w'.cell? ⟨b,i* 2+1,ϋ⟩=ϊ (.int .i64 L[i].2)
def Gv {L:List Og} {base:Nat} (h:jd 2 RO (λ_=>False) w base 37 v L): ∃oa cap,v= δ oa L.length cap/\Yf w oa L:=by
 obtain⟨⟨xs,d,r⟩,_⟩:=h;rcases id d.2 with ⟨rfl,H⟩ | ⟨b,cap,cur,rfl,J,I,N,O,_⟩
 ·exact⟨ϋ,0,by rw[H],by rw[H];exact Ϻ _,λw' _ i hi=>by omega⟩
 ·refine⟨_,cap,rfl,τ,λw' m i hi=>⟨b,rfl, ?_, ?_⟩⟩
  ·have e:(xs.drop (i* 2)).take 2=[ι L[i].1,ι L[i].2]:=(r i hi).read;have e0:=ϰ (λl:List Value=>l[0]?) e;simp at e0;rw[m.cells _ _ (lt_of_block I),d.cellAt _ τ];exact e0
  ·have e:(xs.drop (i* 2)).take 2=[ι L[i].1,ι L[i].2]:=(r i hi).read;have G:=ϰ (λl:List Value=>l[1]?) e;simp at G;rw[m.cells _ _ (lt_of_block I),d.cellAt _ τ];exact G
def NG {al:Option Addr} {L:List Og} (d G:Int) (h:Yf w al L):
  Calls prog 118 #[δ al L.length cap,θ #[ι d,ι G]] w λe w'=> ∃n:Int,(0<=n↔(d,G)∈L)/\ -1<=n/\e= .returned (ι n)/\qh w w':=by
 obtain⟨az,aj⟩:=h;have N:=κ aj;unfold maxLen at az;obtain⟨W1,J⟩:=ν (w.alloc (.cells #[ι d,ι G] 37));have I:Hid (qh w W1):=κ (by rw[<-J];exact qh.alloc _ _);have an:Hid (W1.heap[w.heap.size]? =ϊ (.cells #[ι d,ι G] 37 (0,0))):=κ (by rw[<-J];exact qp w _);have aA:=PU;clear aj
 go_enter func118,ntmps118
 go_wp2
 (try rw[J])
 clear J
 go_loopw [8] (λY wr=> ∃k:Nat,k<=L.length/\Y= ι k/\(d,G)∉L.take k/\qh W1 wr) (λY _=>L.length-(intOf Y).toNat)
 case atStart=>exact⟨0,τ,rfl,η,qh.refl _⟩
 case round=>
  obtain⟨j,aB,rfl,ai,ah⟩:=hrel;have ad:=κ ai;have H:=κ ah;clear ai ah;by_cases hlt:j<L.length
  ·have ay:(j:Int)<(L.length:Int):=by omega
   obtain⟨b,rfl,_,_⟩:=N.o _ (I.o.trans H.o) j hlt;have ak:L.take (j+1)=L.take j++[L[j]]:=ϵ hlt;have ar:=κ ak;have aq:=κ (Ϣ hlt);have af: ∀x:qu wr,x.w'.cell? ⟨b,j* 2,ϋ⟩=ϊ (ι (L[j]).1):=λx=>by
    obtain⟨av,e,aw,_⟩:=N.o x.w' (I.o.trans (H.o.trans x.h)) j hlt;injection e with e
    injection e with e
    subst e;exact aw
   have ag: ∀x:qu wr,x.w'.cell? ⟨b,j* 2+1,ϋ⟩=ϊ (ι (L[j]).2):=λx=>by
    obtain⟨av,e,_,ax⟩:=N.o x.w' (I.o.trans (H.o.trans x.h)) j hlt;injection e with e
    injection e with e
    subst e;exact ax
   clear ak;generalize L[j]=y at *;obtain⟨aa,ab⟩:=y;simp only at af ag;have O:=λ(x:qu wr)=>qj (H.o.trans x.h) an.o
   have ao:=λx=>β0 (O x);have ap:=λx=>β1 (O x);clear O
   obtain⟨c,U⟩:=ν (decide (((d,G):Og)=(aa,ab)));have am:=λw=>Hi d G aa ab w
   rw[U] at am;have ac:=κ U;clear U
   go_upto_region 4 with fail
   refine Qn wr 6 6 [] ?_
   refine Qq6 ?_
   refine qD ?_;clear ao ap af ag am;have ae:=κ (qh.drewN wr 1);cases c with
   | true=>
    have e:((d,G):Og)=(aa,ab):=Ϛ ac.o;have au:Hid ((d,G)∈L):=κ (by rw[e];exact aq.o);clear e;go_wp2;go_ret;exact⟨j,⟨λ_=>au.o,λ_=>by omega⟩,τ,rfl,I.o.trans (H.o.trans ae.o)⟩
   | false=>
    go_wp2;go_roundw
    case rel=>exact⟨j+1,τ,by go_num,by rw[ar.o,ϥ,Γ];exact λh=>h.elim ad.o (B9 ac.o),H.o.trans ae.o⟩
    case measure=>simp[intOf];omega
  ·obtain rfl:j=L.length:=by omega
   have ay: ¬(L.length:Int)<(L.length:Int):=by omega
   go_wp2;go_ret;refine⟨-1,⟨λh=>by omega,λh=> ?_⟩,τ,rfl,I.o.trans H.o⟩;have:=ad.o;rw[ϭ] at this;exact ϧ h this
def Rf {H:Option Addr} {L:List Og} (d G:Int) (h:Yf w H L):
  Calls prog 72 #[δ H L.length cap,θ #[ι d,ι G]] w λe w'=>e= .returned (μ (decide ((d,G)∈L)))/\qh w w':=by
 have I:=κ (qp w (.cells #[ι d,ι G] 37));have aa:=β0 I.o;have ab:=β1 I.o;have O:=κ (NG (w:=w.alloc (.cells #[ι d,ι G] 37)) (cap:=cap) d G (⟨h.1,λw' m=>h.2 w' (Z0.trans m)⟩:Yf _ H L));clear h
 go_enter func72,ntmps72
 go_wp2_with (go_at_call 118;(go_call O.o as e w2 ⟨n,J,ac,rfl,N⟩;have U:=κ J;have Y:=κ N;clear J N))
 go_ret;exact⟨jq (by rw[F2];simp only[C2];exact U.o),Z0.trans Y.o⟩
def O7 (h:RmX T w0 w k vp vr s F):Calls prog 66 #[γ k.RQ] w λe w'=>e= .returned (ι s.queue.length)/\qh w w':=by
 obtain⟨f,Q,H,I,d,G,css,g,a⟩:=h.que;refine(RE g).mono ?_;rintro e w' ⟨rfl,rfl⟩;exact⟨by rw[a.len],qh.refl _⟩
def vJ (s:RmS) (i:Nat):List Int:=(subIds.take i).filter λx=>(qm s.lanes x).isSome
def Wc (s:RmS) (i:Nat):(vJ s i).length<=6:=ϙ (D2 _ _) (by rw[ϛ];show min i 6<=6;omega)
def jd.low {R:qO α} {D:Nat->Prop} {base d e:Nat} {L:List α} (h:jd n R D w base e v L) (N:d<=base):jd n R D w d e v L:=by
 obtain⟨⟨xs,⟨G,H⟩,I⟩,J⟩:=h;refine⟨⟨xs,⟨G, ?_⟩,I⟩,J⟩;rcases H with h | ⟨g,cap,cur,e1,hg,rest⟩
 ·exact ϐ h
 ·exact ϓ ⟨g,cap,cur,e1,ϙ N hg,rest⟩
def YT (h:RmX T w0 w k vp vr s F):Calls prog 26 #[γ k.R] w λe w'=> ∃v,e= .returned v/\jd 2 RO (λ_=>False) w' w.heap.size 37 v s.workers/\qh w w':=by
 obtain⟨aA,hi,ax,ay,az⟩:=info_parts (P:=prog) (e:=3) (z:= ι 0) (size:=1) (bytes:=8) ξ;have J:=κ h;have ab:=κ (Wc s);clear h
 go_enter func26,ntmps26
 go_wp2
 go_loopw [3,7] (λu O wr=> ∃i:Nat,i<=6/\O= ι i/\(∃ak aj ac,u= δ ak aj ac)/\wr.ownsRow w.heap.size 3 1 u (vJ s i).length ((vJ s i).map (Value.int .i64))/\qh w wr) (λ_ O _=>6-(intOf O).toNat)
 case atStart=>exact⟨0,τ,rfl,⟨_,_,_,rfl⟩,World.ownsRow_nil _ _ _ _,qh.refl _⟩
 case round=>
  obtain⟨i,aD,rfl,⟨ak,aj,ac,rfl⟩,ah,ag⟩:=hrel;have H:=κ ah;have d:=κ ag;clear ah ag;by_cases hlt:i<6
  ·have av:(i:Int)<6:=by omega
   have aa:=κ (Kd hlt);have aB:=β12 (qj d.o J.o.blk);have q:(Instr.lookup 90 (.map (ϊ k.ML)) (ι (i:Int)) ό).run prog wr= .ok (.tuple #[PF (qm k.LA (i:Int)),μ (qm k.LA (i:Int)).isSome]) wr:=xH (J.o.lnm.more d.o) (i:Int) ό;have G:=(J.o.all (.lane (i:Int))).2;have aw:=ab.o i;cases hg:qm k.LA (i:Int) with
   | none=>
    rw[hg] at G q;have I:Hid (vJ s (i+1)=vJ s i):=κ (by unfold vJ;rw[aa.o,J0,M6,ώ (by rw[<-G];decide)];simp);clear G hg;go_wp2;go_roundw
    case rel=>exact⟨i+1,τ,by go_num,⟨_,_,_,rfl⟩,by rw[I.o];exact H.o,d.o⟩
    case measure=>simp[intOf];omega
   | some p=>
    rw[hg] at G q;have I:Hid (vJ s (i+1)=vJ s i++[(i:Int)]):=κ (by unfold vJ;rw[aa.o,J0,M6,ϒ (by rw[<-G];rfl)];simp);obtain⟨N,af⟩:=ν (vJ s i);rw[af] at I H aw;clear G hg af
    go_wp2_with (at_builtin;(refine qR _ rfl (.tmp 20) (.tmp 22) 107 rfl w.heap.size 3 aA (ι 0) 8 underlying107 hi ax ay az rfl _ .i64 N rfl (H.o.alloc _) _ [(i:Int)] rfl (SlI.lit .i64 wr [(i:Int)] 3 _ 1 _ η rfl η η) (by simp;omega) ζ (by have:=d.o.size;simp;omega) ?_;intro aG w6 U ae _;have ao:=κ U;have an:Hid (qh w w6):=κ (Below.grown (d.o.al _) ae (d.o.al _).size (λb au=>j8 H.o au));obtain⟨aE,aC,ad⟩:=j7 U;rw[show (N++[(i:Int)]).length=N.length+1 from by simp] at ad;subst ad;clear U ae))
    go_roundw
    case rel=>exact⟨i+1,τ,by go_num,⟨_,_,_,rfl⟩,by rw[I.o];exact ao.o,an.o⟩
    case measure=>simp[intOf];omega
  ·obtain rfl:i=6:=by omega
   have av: ¬((6:Nat):Int)<6:=by omega
   have Y:=κ (UG (SlI.of_owns H.o (by have:=ab.o 6;omega)));have ap:Hid (yO (vJ s 6)=s.workers):=κ rfl;rw[ap.o] at Y
   go_wp2_with (go_at_call 71;(go_call Y.o as e w2 ⟨aF,rfl,am,ai⟩;have aq:=κ (am.low d.o.size);have ar:=κ ai;clear am ai))
   go_ret;exact⟨_,rfl,aq.o,d.o.trans ar.o⟩
def FS (h:RmX T w0 w k vp vr s F):Calls prog 26 #[γ k.R] w λe w'=> ∃d cap,e= .returned (δ d s.workers.length cap)/\Yf w' d s.workers/\qh w w':=by
 refine(YT h).mono ?_;rintro e w' ⟨v,rfl,G,H⟩;obtain⟨d,cap,rfl,I⟩:=Gv G;exact⟨d,cap,rfl,I,H⟩
def RY (h:RmX T w0 w k vp vr s F) (aB:xQ s.clock) (w1 w2:Int):
  Calls prog 27 #[γ k.R,θ #[ι w1,ι w2]] w λe w'=>e= .returned (μ (s.may (w1,w2)))/\qh w w':=by
 obtain⟨W1,U⟩:=ν (w.alloc (.cells #[ι w1,ι w2] 37));have M1:Hid (qh w W1):=κ (by rw[<-U];exact qh.alloc _ _);have aq:Hid (W1.heap[w.heap.size]? =ϊ (.cells #[ι w1,ι w2] 37 (0,0))):=κ (by rw[<-U];exact qp w _);have aw:=κ (h.on M1.o);have aO:=κ aB;obtain⟨c,Y⟩:=ν (decide ((w1,w2)∈s.workers));obtain⟨ay,am⟩:=ν (s.closed);have ae:Hid (s.may (w1,w2)=(c&&(if ay then !((qm s.ret (w1,w2)).getD ύ) else s.mayOpen (w1,w2)))):=κ (by unfold RmS.may;rw[Y,am]);have aM:=κ am;have aQ:=κ (λ(h:c=ό)=>Ϛ (Y.trans h));have av:=κ (FS (aw.o.on (qh.drewN W1 1)));have ah:=λ(x:qu W1)=>qj x.h aq.o
 have ac:=λx=>β0 (ah x);have ad:=λx=>β1 (ah x);clear ah
 have ar:Hid (∀w' aa cap,Yf w' aa s.workers->Calls prog 72 #[δ aa s.workers.length cap,θ #[ι w1,ι w2]] w' λe w''=>e= .returned (μ c)/\qh w' w''):=κ (λw' aa cap aU=>by rw[<-Y];exact Rf w1 w2 aU);clear h aB Y am
 go_enter func27,ntmps27
 go_upto_region 1 with fail
 (try rw[U])
 clear U;refine zr W1 5 [(0,ύ),(2,ύ),(1,ό),(3,ό),(4,ύ)] ξ ξ ?_
 refine Qq2 ?_
 (refine Ql ?_;intro K d)
 (with_reducible refine av.o.mono ?_)
 rintro e aZ ⟨aa,cap,rfl,aI,aJ⟩;have aS:=κ aI;have ax:Hid (qh W1 aZ):=κ ((qh.drewN W1 1).trans aJ);clear aI aJ;refine⟨_,rfl,qo ax.o,d _ _ ?_⟩;clear d K
 (refine Ql ?_;intro K d)
 go_call ar.o _ _ _ aS.o as e w4 ⟨rfl,aK⟩;have G:Hid (qh W1 w4):=κ (ax.o.trans aK);clear aK;refine⟨_,rfl,qo G.o,d _ _ ?_⟩;clear d K
 iterate 1 (refine qz rfl rfl (qo G.o) ?_;intro K d;go_big_quiet_op;go_big_quiet_on)
 refine qD ?_;clear ac ad av ar;have H:=κ (aw.o.on G.o);have ab:=κ (qj G.o aq.o);have aT:=β7 H.o.blk;rw[aM.o] at aT;cases c with
 | false=>
  go_wp2;go_ret;exact⟨by rw[ae.o];rfl,M1.o.trans G.o⟩
 | true=>
  have aR:=κ (mem_workers.1 (aQ.o rfl));cases ay with
  | true=>
   have O:Hid (s.may (w1,w2)= !((qm s.ret (w1,w2)).getD ύ)):=κ (by rw[ae.o];rfl);obtain⟨aX,ap⟩:=ν ((qm s.ret (w1,w2)).getD ύ);rw[ap] at O;have bb:=λ(x:qu w4)=>β8 (qj x.h H.o.blk)
   have ai:=λ(x:qu w4)=>qj x.h ab.o
   have ac:=λx=>β0 (ai x);have ad:=λx=>β1 (ai x);clear ai
   have bd: ∀x:qu w4,(Instr.lookup 87 (.map (ϊ k.M1)) (θ #[ι w1,ι w2]) ύ).run prog x.w'= .ok (μ aX) x.w':=λx=>by rw[<-ap];exact Kz (H.o.retm.more x.h) (w1,w2)
   clear ap
   go_upto_region 4 with fail
   refine Qn w4 8 8 [] ?_
   refine Qq8 ?_
   refine qD ?_;go_wp2;go_ret;exact⟨by rw[O.o];rfl,(M1.o.trans G.o).dr 1⟩
  | false=>
   have O:Hid (s.may (w1,w2)=s.mayOpen (w1,w2)):=κ (by rw[ae.o];rfl);have be:=β0 ab.o;by_cases e0:w1=0
   ·subst e0;have I:Hid (s.may (0,w2)=decide (0<s.queue.length)):=κ (by rw[O.o];unfold RmS.mayOpen;rw[ϒ rfl]);have bf:=β10 H.o.blk;have aN:=κ (O7 H.o)
    go_wp2_with (go_at_call 66;(go_call aN.o as e w5 ⟨rfl,J⟩;have N:=κ J;clear J))
    go_ret;exact⟨jq (by rw[I.o,F2]),M1.o.trans (G.o.trans N.o)⟩
   ·by_cases e1:w1=1
    ·subst e1;have I:Hid (s.may (1,w2)=s.ready.isSome):=κ (by rw[O.o];unfold RmS.mayOpen;rw[ώ η,ϒ rfl]);have ag:=κ (Cq H.o aO.o);obtain⟨aW,aD⟩:=ν (s.readyO);obtain⟨bl,ao⟩:=ν (s.ready.isSome);rw[aD,ao] at ag;rw[ao] at I;clear aD ao;obtain⟨bj,bk⟩:=aW;simp only at ag
     go_wp2_with (go_at_call 73;(go_call ag.o as e w5 ⟨rfl,J⟩;have N:=κ J;clear J))
     go_ret;exact⟨by rw[I.o];rfl,(M1.o.trans (G.o.trans N.o)).al _⟩
    ·have aV:(w1=2∨w1=3∨w1=4)/\(qm s.lanes w2).isSome=ό:=by
      rcases aR.o with e | e | e
      ·injection e with e3 e4
       exact ϧ e3 e0
      ·injection e with e3 e4
       exact ϧ e3 e1
      ·exact⟨e.1,e.2.2⟩
     obtain⟨aG,aH⟩:=aV;obtain⟨l,an⟩:=Ϟ.1 aH;obtain⟨p,aC,az⟩:=H.o.laneAt an;have I:Hid (s.may (w1,w2)=zQ l (xr w1)):=κ (by rw[O.o];unfold RmS.mayOpen;simp only[ώ e0,ώ e1,an]);have aF:xr w1=1∨xr w1=2∨xr w1=3:=by rcases aG with rfl | rfl | rfl<;>decide
     obtain⟨aY,aE⟩:=ν (xr w1);have au:=κ (λw'=>YQ w1 w2 w');have af:=κ (λw' (m:qh w4 w')=>Mx (az.on m) (xr w1) aF);rw[aE] at au af I;obtain⟨bi,aA⟩:=ν (zQ l aY);rw[aA] at af I;have aP:=κ aC;have bg:(w1==0)=ύ:=by simpa using e0
     have bh:(w1==1)=ύ:=by simpa using e1
     clear aE aA aF az an aH aG e0 e1 aC
     go_upto_region 11 with fail
     have ba:=λ(x:qu w4)=>β12 (qj x.h H.o.blk)
     have aj:=λ(x:qu w4)=>qj x.h ab.o
     have ac:=λx=>β0 (aj x);have ad:=λx=>β1 (aj x);clear aj
     have bc: ∀x:qu w4,(Instr.lookup 90 (.map (ϊ k.ML)) (ι w2) ύ).run prog x.w'= .ok (γ p) x.w':=λx=>by
      have:=xH (H.o.lnm.more x.h) w2 ύ;rw[aP.o] at this;exact this
     refine Qn w4 11 11 [8,9] ?_
     refine Qq8 ?_
     (refine Ql ?_;intro K d)
     go_call au.o _ as e w5 ⟨rfl,J⟩;have N:Hid (qh w4 w5):=κ ((qh.drewN w4 1).trans J);clear J;refine⟨_,rfl,qo N.o,d _ _ ?_⟩;clear d K
     (refine Ql ?_;intro K d)
     go_call af.o _ N.o as e w6 ⟨rfl,aL⟩;have ak:Hid (qh w4 w6):=κ (N.o.trans aL);clear aL;refine⟨_,rfl,qo ak.o,d _ _ ?_⟩;clear d K
     iterate 1 (refine qz rfl rfl (qo ak.o) ?_;intro K d;go_big_quiet_op;go_big_quiet_on)
     refine qD ?_;go_wp2;go_ret;exact⟨by rw[I.o];rfl,M1.o.trans (G.o.trans ak.o)⟩
def Ie {b:Jb} (d:JOK b) (G:Int):JOK (zP b G).1:=by
 unfold zP;cases hb:b.holds with
 | nil=>exact d
 | cons h T=>
  simp only;split
  ·exact KC d hb
  ·exact d
def If {b:Jb} (h:jU b d=ό): ∃x∈b.holds,(zP b d).2.2.1=x.2.2:=by
 unfold zP;cases hb:b.holds with
 | nil=>unfold jU at h;rw[hb] at h;cases h
 | cons x L=>
  simp only[h,Ψ];exact⟨x,ϣ,rfl⟩
def IH (s:RmS) (o:Og) (i:Nat) {a:AcS} (h:s.pks.getD i ac0=a):s.item o (i:Int)=⟨i,o.2,xO a.pk.pl,a.pk⟩:=by
 unfold RmS.item;rw[A7,h]
def Dx (d:ItS) (h: ∀y i,qm s.book (y,i)=ϊ 0->(qm s.lanes y).isSome=ό) (x:Int): ∀y i,qm (s.put1 d x).book (y,i)=ϊ 0->(qm (s.put1 d x).lanes y).isSome=ό:=by
 intro y i;unfold RmS.put1;split
 ·cases hl:qm s.lanes x with
  | none=>exact h y i
  | some l=>
   have G:(qm s.lanes y).isSome=ό->(qm (qB s.lanes x (jL l d).1) y).isSome=ό:=λe=>by
    rw[qE];split
    ·rfl
    ·exact e
   simp only;split
   ·intro e;refine G (h y i ?_);simp only at e;rw[jM _ _ _ _ ζ] at e;split at e
    ·cases e
    ·exact e
   ·exact λe=>G (h y i e)
 ·exact h y i
def Yn (d:ItS): ∀(L:List Int) {s:RmS},(∀y i,qm s.book (y,i)=ϊ 0->(qm s.lanes y).isSome=ό)-> ∀y i,qm (L.foldl (RmS.put1 d) s).book (y,i)=ϊ 0->(qm (L.foldl (RmS.put1 d) s).lanes y).isSome=ό
 | [],_,h=>h
 | x::L,_,h=>Yn d L (Dx d h x)
def Nv (dE:qL w0 w k s F) (bw:Md s) (w1 w2:Int) (acc:Bool):
  Calls prog 80 #[γ k.R,θ #[ι w1,ι w2],acc] w λe w'=>e= .returned (.tuple #[])/\qL w0 w' k s.order F/\qA F w w':=by
 obtain⟨T,vp,dL,h⟩:=dE;obtain⟨W1,aH⟩:=ν (w.alloc (.cells #[ι w1,ι w2] 37));have bR:Hid (qh w W1):=κ (by rw[<-aH];exact qh.alloc _ _);have aE:=κ (h.on bR.o);have bT:=κ (h.at.stay bR.o);have aN:=κ bw;have aT:=κ (Cq aE.o bw.clock);clear h bw;obtain⟨cy,bc⟩:=ν (s.ready);have aR:=κ bc;have e0:s.readyO=cy.getD (0,0):=by unfold RmS.readyO;rw[bc]
 rw[bc,e0] at aT;clear bc e0;cases cy with
 | none=>
  have bk:Hid (s.order=s):=κ (by unfold RmS.order;rw[aR.o])
  go_enter func80,ntmps80
  go_upto_region 1 with fail
  (try rw[aH])
  clear aH
  go_wp2_with (go_at_call 73;(go_call aT.o as e G ⟨rfl,aL⟩;have aF:=κ aL;clear aL))
  (refine bodyPost_ret (v:= .tuple #[]) ?re2 rfl ?_;(case re2=>simp[results,results80,go_sem]))
  exact⟨rfl,by rw[bk.o];exact(aE.o.on (aF.o.al _)).at,bT.o.trans (aE.o.at.stay (aF.o.al _))⟩
 | some o=>
  obtain⟨ao,o2⟩:=o;simp only[ϩ,Option.isSome_some] at aT;have ca:=List.mem_of_find?_eq_some aR.o;have bb:s.readyAt (ao,o2)=ό:=P0 aR.o;obtain⟨t,aw⟩:=kp ca;have cf:jU t.buf s.clock=ό:=by
   unfold RmS.readyAt at bb;rw[aw] at bb;exact bb
  have aU:=κ aw;have cV:=κ cf;clear ca bb aw cf;have bk:Hid (s.order=s.orderAt (ao,o2) t):=κ (by unfold RmS.order;rw[aR.o];simp only[aU.o])
  go_enter func80,ntmps80
  go_upto_region 1 with fail
  (try rw[aH])
  clear aH
  go_upto_region 3 with (go_at_call 73;(go_call aT.o as e G ⟨rfl,aL⟩;have aF:=κ aL;clear aL))
  obtain⟨Y,aX⟩:=ν (G.alloc (.cells #[ι ao,ι o2] 58));have bS:Hid (qh W1 Y):=κ (by rw[<-aX];exact aF.o.al _);have bg:Hid (Y.heap[G.heap.size]? =ϊ (.cells #[ι ao,ι o2] 58 (0,0))):=κ (by rw[<-aX];exact qp _ _);have ch:W1.heap.size<=G.heap.size:=aF.o.size;have am:RmX T w0 Y k vp dL s ([G.heap.size]++F):=aE.o.adds bS.o (λb ac=>by simp at ac;subst ac;exact⟨ch,qq bg.o⟩)
  (try rw[aX])
  clear aX;have aV:=κ am;obtain⟨bE,ab,vb,cd,ar⟩:=am.strAt aU.o;have bP:=κ cd;have au:=κ ar;have cr:k.R≠ab:=λe=>by have:=ar.nb;rw[<-e,(am.all .room).1] at this;cases this
  have ct: ¬vb.ownBlock=ϊ k.R:=λe=>by have:=(ar.nv _ e).1;rw[(am.all .room).1] at this;cases this
  have cq: ¬(k.R=ab∨vb.ownBlock=ϊ k.R):=λe=>e.elim cr ct
  have cl:k.MS≠ab:=λe=>by have:=ar.nb;rw[<-e,(am.all .sts).1] at this;cases this
  have cm: ¬vb.ownBlock=ϊ k.MS:=λe=>by have:=(ar.nv _ e).1;rw[(am.all .sts).1] at this;cases this
  have ck: ¬(k.MS=ab∨vb.ownBlock=ϊ k.MS):=λe=>e.elim cl cm
  have co:G.heap.size≠ab:=λe=>by have:=ar.nb;rw[<-e,(am.law G.heap.size η).1] at this;cases this
  have cp: ¬vb.ownBlock=ϊ G.heap.size:=λe=>by have:=(ar.nv _ e).1;rw[(am.law G.heap.size η).1] at this;cases this
  have cn: ¬(G.heap.size=ab∨vb.ownBlock=ϊ G.heap.size):=λe=>e.elim co cp
  have cu: ¬(bE=ab∨vb.ownBlock=ϊ bE):=λe=>e.elim (λe=>au.o.ne e) (λe=>(au.o.nv _ e).2 rfl)
  have bp:=λ(x:qC (λb=>b=ab∨vb.ownBlock=ϊ b) Y)=>x.h.blk aV.o.blk cq
  have cI:=λx=>β13 (bp x);have cJ:=λx=>β9 (bp x);clear bp
  have bq:=λ(x:qC (λb=>b=ab∨vb.ownBlock=ϊ b) Y)=>x.h.blk bg.o cn
  have cL:=λx=>β0 (bq x);have cM:=λx=>β1 (bq x);clear bq
  have cK:=λ(x:qC (λb=>b=ab∨vb.ownBlock=ϊ b) Y)=>β0 (x.h.blk au.o.blk cu)
  have bh: ∀x:qC (λb=>b=ab∨vb.ownBlock=ϊ b) Y,(Instr.lookup 91 (.map (ϊ k.MS)) (θ #[ι ao,ι o2]) ύ).run prog x.w'= .ok (γ bE) x.w':=λx=>by
   have:=yU (aV.o.stm.away x.h ck) (ao,o2) ύ;rw[bP.o] at this;exact this
  clear am cd ar ch cr ct cl cm co cp;refine QN (λb=>b=ab∨vb.ownBlock=ϊ b) Y 21 21 [13] ?_
  refine R9 ?_
  (refine Ql ?_;intro K d)
  obtain⟨id,aZ⟩:=ν ((zP t.buf s.clock).2.2.1);have cP:=κ aZ
  have bN:Hid (0<=id/\id<(s.pks.length:Int)):=κ (by
   obtain⟨x,dJ,e⟩:=If cV.o;rw[<-aZ,e]
   exact aN.o.ids _ _ aU.o x dJ)
  obtain⟨H,dF⟩:=Θ bN.o.1;subst dF;have dG:H<s.pks.length:=by have:=bN.o.2;omega
  have aQ:=κ (Li t.buf au.o.ok ab vb s.clock aN.o.clock _ (au.o.buf.on (qh.drewN Y 1)));rw[aZ] at aQ;clear aZ
  (with_reducible refine aQ.o.mono ?_)
  rintro e w5 ⟨rfl,v5,st⟩;have bI:Hid (qk (λb=>b=ab∨vb.ownBlock=ϊ b) Y w5):=κ (((qk.refl _ Y).drewN 1).trans st.away);have aA:=κ ((aV.o.on (qh.drewN Y 1)).strBuf aU.o bP.o (au.o.on (qh.drewN Y 1)) st (Ie au.o.ok s.clock));have bs:=κ ((aV.o.at.stay (qh.drewN Y 1)).trans aA.o.2);clear st;refine⟨_,rfl,qn bI.o,d _ _ ?_⟩;clear d K
  iterate 7 (refine qz rfl rfl (qn bI.o) ?_;intro K d;go_big_quiet_op;go_big_quiet_on)
  refine qD ?_;clear cI cJ cL cM cK bh cq ck cn cu;obtain⟨ad,bd⟩: ∃ad:RmS,{s with strs:=qB s.strs (ao,o2) {t with buf:=(zP t.buf s.clock).1}}=ad:=⟨_,rfl⟩;have bQ:=κ bd;rw[bd] at aA;have aO:Hid (ad.pks=s.pks):=κ (by rw[<-bd]);have bv:H<ad.pks.length:=by rw[aO.o];exact dG
  obtain⟨dM,dT,dV,bG⟩:=aA.o.1;obtain⟨g,cap,os,N,O,J,ke,I,rfl,dS,dP,bX,cg⟩:=bG.pkRow bv;have dA:=κ bG;have aS:=κ cg;have bM:=κ bX;have dR:(ad.pks.length:Int)=s.pks.length:=by rw[aO.o]
  clear bd bG cg bX;obtain⟨a,aI⟩:=ν (ad.pks[H]);have bL:=κ aI;simp only[aI] at aS bM;clear aI;have dC:=β14 dA.o.blk
  have cU:Hid (w5.rangeAt g (H* 13+3) (Γh a.pk os J N ke O I)):=κ (λj v dI=>by
   rw[N0]
   exact bM.o (3+j) v (by rw[Nat.add_comm];exact dI))
  go_upto_region 5 with (refine wpList_load_mid rfl 63 (.tmp 48) rfl g (H* 13+3) rfl (Γh a.pk os J N ke O I) _ cU.o underlying63 rfl ξ ?_)
  obtain⟨W6,aY⟩:=ν (w5.alloc (.cells (Γh a.pk os J N ke O I) 63));have ak:Hid (qh w5 W6):=κ (by rw[<-aY];exact qh.alloc _ _);have cD:Hid (W6.heap[w5.heap.size]? =ϊ (.cells (Γh a.pk os J N ke O I) 63 (0,0))):=κ (by rw[<-aY];exact qp _ _);have cG:=κ (bs.o.blk η bg.o)
  (try rw[aY])
  clear aY dC;have dx:=κ aS.o.pk;have aP:=κ (aN.o.pkok a (by rw[<-bL.o];rw[<-aO.o];exact Ϣ bv));obtain⟨af,bx⟩:=ν (xO a.pk.pl);have bj:=κ (λw' (m:qh w5 w')=>Xe _ a.pk.pl w' (dx.o.l.keep m) aP.o.1.pl aP.o.2.l);rw[bx] at bj;have cQ:=κ bx;clear bx;obtain⟨U,bZ⟩: ∃U:ItS,(⟨H,o2,af,a.pk⟩:ItS)=U:=⟨_,rfl⟩;have aM:=κ bZ;clear bZ
  have cO:Hid (s.orderAt (ao,o2) t=subIds.foldl (RmS.put1 U) ad):=κ (by
   have aI:s.pks.getD H ac0=a:=by
    rw[<-aO.o,ϑ,ϖ bv];exact bL.o
   unfold RmS.orderAt
   rw[cP.o,bQ.o,IH s (ao,o2) H aI,<-aM.o,<-cQ.o])
  have cT:Hid (∀y i,qm ad.book (y,i)=ϊ 0->(qm ad.lanes y).isSome=ό):=κ (by rw[<-bQ.o];exact aN.o.owes);have dz:Hid (qA F w Y):=κ (bT.o.trans (aE.o.at.stay bS.o));have dk:=λ(x:qu W6)=>β1 (qj (ak.o.trans x.h) cG.o)
  have ah:=λ(x:qu W6)=>qj x.h cD.o
  have dl:=λx=>β0 (ah x);have dm:=λx=>β1 (ah x);have dn:=λx=>β2 (ah x);have dp:=λx=>β3 (ah x);have dq:=λx=>β4 (ah x);have ds:=λx=>β5 (ah x);have dt:=λx=>β6 (ah x);have du:=λx=>β7 (ah x);have dv:=λx=>β8 (ah x);have dw:=λx=>β9 (ah x);clear ah
  go_cut [12] from 50 to 90 (λv bF=> ∃A:Nat,v= γ A/\RmP (acC a (δ os a.pk.ss.length J) (δ N a.pk.ex.length ke) (δ O a.pk.pl.length I)) a w0 bF k ad ([A]++([G.heap.size]++F))/\qA ([G.heap.size]++F) Y bF/\bF.heap[A]? =ϊ (.cells #[ι H,ι o2,af,a.pk.mr,υ a.pk.ty,φ a.pk.sq,ω a.pk.st,ω a.pk.sc,δ os a.pk.ss.length J,a.pk.has,φ a.pk.pr,δ N a.pk.ex.length ke,δ O a.pk.pl.length I] 253 (0,0)))
  case first=>
   refine ye W6 9 (.op 0 ύ (.op 1 ύ (.op 2 ύ (.op 3 ύ (.op 4 ύ (.op 6 ύ (.br [5,8] λk=>if k=5 then .op 7 ύ (.op 8 ό (.op 9 ό (.done))) else .op 5 ό (.op 7 ύ (.op 9 ό (.done)))))))))) ξ ξ ?_
   repeat (first | (refine jl rfl rfl (qo ρ) ?_) | (refine qK rfl rfl (qo ρ) ?_;intro K d;go_big_quiet_op;go_big_quiet_on))
   refine gK ζ ?_ ?_
   ·(refine qV rfl rfl ?_;intro K d;unfold jt;go_simp)
    refine(bj.o _ (ak.o.trans (qh.drewN W6 1))).mono ?_;rintro e w8 ⟨rfl,cj⟩;have ai:Hid (qh W6 w8):=κ ((qh.drewN W6 1).trans cj);clear cj;refine⟨_,rfl,qo ai.o,d _ _ ?_⟩;clear d K
    repeat (first | (refine jl rfl rfl (qo ai.o) ?_) | (refine qK rfl rfl (qo ai.o) ?_;intro K d;go_big_quiet_op;go_big_quiet_on))
    (refine qV rfl rfl ?_;intro K d;unfold jt;go_simp)
    refine⟨qo (ai.o.al _),d _ _ ?_⟩;clear d K;obtain⟨w9,bf⟩:=ν (w8.alloc (.cells Γa 253));obtain⟨A,an⟩:=ν (w8.heap.size);have az:Hid (w9.heap[A]? =ϊ (.cells Γa 253 (0,0))):=κ (by rw[<-bf,<-an];exact qp w8 _);have aq:Hid (qh W6 w9):=κ (by rw[<-bf];exact ai.o.al _);have ay:Hid (W6.heap.size<=A):=κ (by rw[<-an];exact ai.o.size)
    (try rw[bf])
    (try rw[an])
    clear bf an
    repeat (first | (refine jl rfl rfl (qo aq.o) ?_) | (refine qK rfl rfl (qo aq.o) ?_;intro K d;go_big_quiet_op;go_big_quiet_on))
    refine qV rfl rfl ?_;intro K d;have ae:=κ (aq.o.row ay.o #[ι H,ι o2,af,a.pk.mr,υ a.pk.ty,φ a.pk.sq,ω a.pk.st,ω a.pk.sc,δ os a.pk.ss.length J,a.pk.has,φ a.pk.pr,δ N a.pk.ex.length ke,δ O a.pk.pl.length I]);have aj:=κ (jG az.o #[ι H,ι o2,af,a.pk.mr,υ a.pk.ty,φ a.pk.sq,ω a.pk.st,ω a.pk.sc,δ os a.pk.ss.length J,a.pk.has,φ a.pk.pr,δ N a.pk.ex.length ke,δ O a.pk.pl.length I]);refine xo 253 (.tmp 12) (.tmp 57) rfl A 253 _ #[ι H,ι o2,af,a.pk.mr,υ a.pk.ty,φ a.pk.sq,ω a.pk.st,ω a.pk.sc,δ os a.pk.ss.length J,a.pk.has,φ a.pk.pr,δ N a.pk.ex.length ke,δ O a.pk.pl.length I] az.o rfl rfl ξ rfl Z5 ?_;refine⟨qo ae.o,d _ _ ?_⟩;clear d K
    repeat (first | (refine jl rfl rfl (qo ae.o) ?_) | (refine qK rfl rfl (qo ae.o) ?_;intro K d;go_big_quiet_op;go_big_quiet_on))
    refine zD ?_;obtain⟨bt,av⟩:=ν (w9.setRow A #[ι H,ι o2,af,a.pk.mr,υ a.pk.ty,φ a.pk.sq,ω a.pk.st,ω a.pk.sc,δ os a.pk.ss.length J,a.pk.has,φ a.pk.pr,δ N a.pk.ex.length ke,δ O a.pk.pl.length I]);rw[av] at ae aj
    (try rw[av])
    clear av;have aC:Hid (RmP (acC a (δ os a.pk.ss.length J) (δ N a.pk.ex.length ke) (δ O a.pk.pl.length I)) a w0 bt k ad ([A]++([G.heap.size]++F))):=κ (aS.o.adds (ak.o.trans ae.o) (λb ac=>by simp at ac;subst ac;exact⟨ϙ ak.o.size ay.o,qq aj.o⟩));have aG:=κ (bs.o.trans (aA.o.1.stay (ak.o.trans ae.o)));go_wp2;go_meet;exact⟨_,rfl,aC.o,aG.o,aj.o⟩
   ·(refine qV rfl rfl ?_;intro K d;unfold jt;go_simp)
    refine⟨qo ((qh.drewN W6 1).al _),d _ _ ?_⟩;clear d K;obtain⟨w8,be⟩:=ν ((W6.drewN 1).alloc (.cells Γa 253));obtain⟨A,an⟩:=ν (W6.heap.size);have cE:Hid (w8.heap[A]? =ϊ (.cells Γa 253 (0,0))):=κ (by rw[<-be,<-an];exact qp (W6.drewN 1) _);have ai:Hid (qh W6 w8):=κ (by rw[<-be];exact(qh.drewN W6 1).al _);have ay:Hid (W6.heap.size<=A):=κ (by rw[<-an];exact(qh.drewN W6 1).size)
    (try rw[be])
    (try rw[an])
    clear be an
    repeat (first | (refine jl rfl rfl (qo ai.o) ?_) | (refine qK rfl rfl (qo ai.o) ?_;intro K d;go_big_quiet_op;go_big_quiet_on))
    (refine qV rfl rfl ?_;intro K d;unfold jt;go_simp)
    refine(bj.o _ (ak.o.trans ai.o)).mono ?_;rintro e w9 ⟨rfl,bD⟩;have aq:=κ (ai.o.trans bD);have az:=κ (qj bD cE.o);clear bD;refine⟨_,rfl,qo aq.o,d _ _ ?_⟩;clear d K
    repeat (first | (refine jl rfl rfl (qo aq.o) ?_) | (refine qK rfl rfl (qo aq.o) ?_;intro K d;go_big_quiet_op;go_big_quiet_on))
    refine qV rfl rfl ?_;intro K d;have ae:=κ (aq.o.row ay.o #[ι H,ι o2,af,a.pk.mr,υ a.pk.ty,φ a.pk.sq,ω a.pk.st,ω a.pk.sc,δ os a.pk.ss.length J,a.pk.has,φ a.pk.pr,δ N a.pk.ex.length ke,δ O a.pk.pl.length I]);have aj:=κ (jG az.o #[ι H,ι o2,af,a.pk.mr,υ a.pk.ty,φ a.pk.sq,ω a.pk.st,ω a.pk.sc,δ os a.pk.ss.length J,a.pk.has,φ a.pk.pr,δ N a.pk.ex.length ke,δ O a.pk.pl.length I]);refine xo 253 (.tmp 12) (.tmp 57) rfl A 253 _ #[ι H,ι o2,af,a.pk.mr,υ a.pk.ty,φ a.pk.sq,ω a.pk.st,ω a.pk.sc,δ os a.pk.ss.length J,a.pk.has,φ a.pk.pr,δ N a.pk.ex.length ke,δ O a.pk.pl.length I] az.o rfl rfl ξ rfl Z5 ?_;refine⟨qo ae.o,d _ _ ?_⟩;clear d K
    repeat (first | (refine jl rfl rfl (qo ae.o) ?_) | (refine qK rfl rfl (qo ae.o) ?_;intro K d;go_big_quiet_op;go_big_quiet_on))
    refine zD ?_;obtain⟨bt,av⟩:=ν (w9.setRow A #[ι H,ι o2,af,a.pk.mr,υ a.pk.ty,φ a.pk.sq,ω a.pk.st,ω a.pk.sc,δ os a.pk.ss.length J,a.pk.has,φ a.pk.pr,δ N a.pk.ex.length ke,δ O a.pk.pl.length I]);rw[av] at ae aj
    (try rw[av])
    clear av;have aC:Hid (RmP (acC a (δ os a.pk.ss.length J) (δ N a.pk.ex.length ke) (δ O a.pk.pl.length I)) a w0 bt k ad ([A]++([G.heap.size]++F))):=κ (aS.o.adds (ak.o.trans ae.o) (λb ac=>by simp at ac;subst ac;exact⟨ϙ ak.o.size ay.o,qq aj.o⟩));have aG:=κ (bs.o.trans (aA.o.1.stay (ak.o.trans ae.o)));go_wp2;go_meet;exact⟨_,rfl,aC.o,aG.o,aj.o⟩
  case rest=>
  obtain⟨A,rfl,cb,cz,bW⟩:=hcut;have aC:=κ cb;have aG:=κ cz;have aj:=κ bW;clear dk dl dm dn dp dq ds dt du dv dw cb cz bW;go_wp2
  go_loopw [58] (λbC wr=> ∃j:Nat,j<=6/\bC= ι j/\RmP (acC a (δ os a.pk.ss.length J) (δ N a.pk.ex.length ke) (δ O a.pk.pl.length I)) a w0 wr k ((subIds.take j).foldl (RmS.put1 U) ad) ([A]++([G.heap.size]++F))/\qA ([A]++([G.heap.size]++F)) wc wr) (λbC _=>6-(intOf bC).toNat)
  case atStart=>exact⟨0,τ,rfl,aC.o,qA.refl _ _⟩
  case round=>
   obtain⟨j,dQ,rfl,ce,aw⟩:=hrel;have aD:=κ ce;have bo:=κ aw;have cF:=κ (aw.blk η aj.o);clear aw;by_cases hlt:j<6
   ·have dH:(j:Int)<6:=by omega
    have bn:=κ (JK hlt);have cS:=κ (Yn U (subIds.take j) cT.o);generalize ci:(subIds.take j).foldl (RmS.put1 U) ad=sj at *;have bm:=κ ci;clear ci;obtain⟨dN,dU,dW,ax,_⟩:=ce;have dB:=β0 ax.blk;have bl:=κ (LZ ax.bok (j:Int) (H:Int));obtain⟨dK,aJ⟩:=ν (decide (qm sj.book ((j:Int),(H:Int))=ϊ 0));rw[aJ] at bl;cases dK with
    | false=>
     have aB:Hid (sj.put1 U (j:Int)=sj):=κ (by unfold RmS.put1;rw[<-aM.o];exact ώ (B9 aJ));clear aJ ax
     go_wp2_with (go_at_call 135;(go_call bl.o as e ag ⟨rfl,aK⟩;have ap:=κ aK;clear aK))
     go_roundw
     case rel=>exact⟨j+1,τ,by go_num,by rw[bn.o,Δ,bm.o];show RmP _ a w0 _ k (sj.put1 U (j:Int)) _;rw[aB.o];exact aD.o.on ap.o,bo.o.trans (aD.o.at.stay ap.o)⟩
     case measure=>simp[intOf];omega
    | true=>
     have bB:qm sj.book ((j:Int),(H:Int))=ϊ 0:=Ϛ aJ;obtain⟨l,ba⟩:=Ϟ.1 (cS.o (j:Int) (H:Int) bB);obtain⟨pl,cc,_⟩:=ax.laneAt ba;have aB:Hid (sj.put1 U (j:Int)=if (jL l U).2.2.1 then {sj with lanes:=qB sj.lanes (j:Int) (jL l U).1,book:=jn sj.book (j:Int) (jL l U).2.1 6} else {sj with lanes:=qB sj.lanes (j:Int) (jL l U).1}):=κ (by unfold RmS.put1;rw[ϒ (by rw[<-aM.o];exact bB),ba]);have cR:=κ ba;have bO:=κ cc;have aW:=κ ax;clear aJ ax bB ba cc
     go_upto_region 10 with (go_at_call 135;(go_call bl.o as e ag ⟨rfl,aK⟩;have ap:=κ aK;clear aK))
     have dO:A≠k.R:=λe=>by have:=(aW.o.law A η).1;rw[e,(aW.o.all .room).1] at this;cases this
     have cH:=λ(x:qC (λb=>b≠k.R/\b≠k.ML/\b∉[A]++([G.heap.size]++F)) ag)=>β12 (x.h.blk (qj ap.o aW.o.blk) (λc=>c.1 rfl))
     have bh: ∀x:qC (λb=>b≠k.R/\b≠k.ML/\b∉[A]++([G.heap.size]++F)) ag,(Instr.lookup 90 (.map (ϊ k.ML)) (ι (j:Int)) ύ).run prog x.w'= .ok (γ pl) x.w':=λx=>by
      have:=xH ((aW.o.lnm.more ap.o).away x.h (λc=>c.2.1 rfl)) (j:Int) ύ;rw[bO.o] at this;exact this
     have bJ: ∀x:qC (λb=>b≠k.R/\b≠k.ML/\b∉[A]++([G.heap.size]++F)) ag,x.w'.heap[A]? =ϊ (.cells #[ι H,ι o2,af,a.pk.mr,υ a.pk.ty,φ a.pk.sq,ω a.pk.st,ω a.pk.sc,δ os a.pk.ss.length J,a.pk.has,φ a.pk.pr,δ N a.pk.ex.length ke,δ O a.pk.pl.length I] 253 (0,0)):=λx=>x.h.blk (qj ap.o cF.o) (λc=>c.2.2 η)
     have aa:=λ(x:qC (λb=>b≠k.R/\b≠k.ML/\b∉[A]++([G.heap.size]++F)) ag)=>bJ x
     have cX:=λx=>β0 (aa x);have cY:=λx=>β1 (aa x);have dc:=λx=>β2 (aa x);have dd:=λx=>β3 (aa x);have de:=λx=>β4 (aa x);have df:=λx=>β5 (aa x);have dg:=λx=>β6 (aa x);have dh:=λx=>β7 (aa x);have di:=λx=>β8 (aa x);have dj:=λx=>β9 (aa x);have cZ:=λx=>β10 (aa x);have da:=λx=>β11 (aa x);have db:=λx=>β12 (aa x);clear aa
     refine QN (λb=>b≠k.R/\b≠k.ML/\b∉[A]++([G.heap.size]++F)) ag 15 15 [7] ?_
     refine Qs7 ?_
     (refine Ql ?_;intro K d)
     obtain⟨l',bz⟩: ∃l',(jL l U).1=l':=⟨_,rfl⟩;obtain⟨cv,bA⟩:=ν ((jL l U).2.1);obtain⟨dr,bu⟩:=ν ((jL l U).2.2.1);obtain⟨dD,bY⟩:=ν ((jL l U).2.2.2)
     have aQ:Hid (Calls prog 136 #[γ pl,θ #[ι H,ι o2,af,a.pk.mr,υ a.pk.ty,φ a.pk.sq,ω a.pk.st,ω a.pk.sc,δ os a.pk.ss.length J,a.pk.has,φ a.pk.pr,δ N a.pk.ex.length ke,δ O a.pk.pl.length I]] (ag.drewN 1) λe w'=>e= .returned (.tuple #[ι cv,dr,ι dD])/\
       RmP (acC a (δ os a.pk.ss.length J) (δ N a.pk.ex.length ke) (δ O a.pk.pl.length I)) a w0 w' k {sj with lanes:=qB sj.lanes (j:Int) l'} ([A]++([G.heap.size]++F))/\qA ([A]++([G.heap.size]++F)) (ag.drewN 1) w'/\qk (λb=>b≠k.R/\b≠k.ML/\b∉[A]++([G.heap.size]++F)) (ag.drewN 1) w'):=κ (by
      rw[<-bz,<-bA,<-bu,<-bY,<-aM.o];have h:=(aD.o.on ap.o).on (qh.drewN ag 1)
      exact Ra h ⟨H,o2,af,a.pk⟩ os N O J ke I h.pk aP.o.1 aP.o.2 cR.o bO.o)
     rw[bz,bA,bu] at aB;clear bz bA bu bY
     (with_reducible refine aQ.o.mono ?_)
     rintro e cC ⟨rfl,cw,cA,bV⟩;have bi:=κ cw;have bU:Hid (qA ([A]++([G.heap.size]++F)) wc cC):=κ (bo.o.trans ((aD.o.at.stay (ap.o.dr 1)).trans cA));have bH:Hid (qk (λb=>b≠k.R/\b≠k.ML/\b∉[A]++([G.heap.size]++F)) ag cC):=κ (((qk.refl _ ag).drewN 1).trans bV);clear cw cA bV;refine⟨_,rfl,qn bH.o,d _ _ ?_⟩;clear d K
     iterate 7 (refine qz rfl rfl (qn bH.o) ?_;intro K d;go_big_quiet_op;go_big_quiet_on)
     refine qD ?_;clear cH bh bJ cX cY dc dd de df dg dh di dj cZ da db;cases dr with
     | false=>
      go_wp2;go_roundw
      case rel=>exact⟨j+1,τ,by go_num,by rw[bn.o,Δ,bm.o];show RmP _ a w0 _ k (sj.put1 U (j:Int)) _;rw[aB.o];exact bi.o,bU.o⟩
      case measure=>simp[intOf];omega
     | true=>
      obtain⟨_,_,bK⟩:=bi.o.at.blk;have dB:=β0 bK;clear bK;have cW:=κ (FU bi.o (j:Int) cv 6)
      go_wp2_with (go_at_call 122;(go_call cW.o as e dX ⟨rfl,cx,cB⟩;have cN:=κ cx;have dy:=κ cB;clear cx cB))
      go_roundw
      case rel=>exact⟨j+1,τ,by go_num,by rw[bn.o,Δ,bm.o];show RmP _ a w0 _ k (sj.put1 U (j:Int)) _;rw[aB.o];exact cN.o,bU.o.trans dy.o⟩
      case measure=>simp[intOf];omega
   ·obtain rfl:j=6:=by omega
    have dH: ¬((6:Nat):Int)<6:=by omega
    go_wp2
    (refine bodyPost_end (v:= .tuple #[]) ?re1 rfl ?_;(case re1=>simp[results,results80,go_sem]))
    exact⟨rfl,by rw[bk.o,cO.o];have h:=aD.o.at;exact h.sub (λb ac=>by simp[ac]),dz.o.trans ((aG.o.sub (λb ac=>by simp[ac])).trans (bo.o.sub (λb ac=>by simp[ac])))⟩
def qT.rd (h:qT n s) (af:n<=10000):Md s:=by
 have Y:=h.num.malf;have aa:=h.num.told;have ab:=h.num.strange;have ac:=h.num.acc;have ad:=h.num.pks;have ae:=h.num.clock;refine⟨⟨h.tb.keys,h.tb.lane,ϙ h.num.few τ⟩,λx U a b m J=>by rw[h.tb.str _ _ J];exact h.tb.pub x U a b,τ,τ,τ,τ,τ,⟨τ,τ⟩,λo t H=>⟨λd=> ?_,λsq N=> ?_⟩,h.tb.org,λb G=>⟨(h.num.queue b G).1,by have:=(h.num.queue b G).2;omega⟩,λo t H x O=>h.ow.few o t H _ (C1.2 ⟨x,O,rfl⟩),λa d=>⟨(h.num.pkok a d).1,(h.num.pkok a d).2.1⟩,λx id G=> ?_⟩
 ·have:=h.num.great o t H d;exact⟨τ,τ⟩
 ·have:=Pj (n:=n) N (h.num.great o t H);exact⟨τ,τ⟩
 ·obtain⟨l,I,_⟩:=h.ow.src x id G;rw[I];rfl
def LW (aG:qL w0 w k s F) (au:qT n s) (av:n<=10000) (w1 w2:Int) (acc:Bool):
  Calls prog 31 #[γ k.R,θ #[ι w1,ι w2],acc] w λe w'=>e= .returned (μ (s.pick (w1,w2) acc).2)/\qL w0 w' k (s.pick (w1,w2) acc).1 F/\qA F w w':=by
 obtain⟨T,vp,aL,h⟩:=aG;obtain⟨W1,J⟩:=ν (w.alloc (.cells #[ι w1,ι w2] 37));have az:Hid (qh w W1):=κ (by rw[<-J];exact qh.alloc _ _);have am:Hid (W1.heap[w.heap.size]? =ϊ (.cells #[ι w1,ι w2] 37 (0,0))):=κ (by rw[<-J];exact qp w _);have I:=κ (h.on az.o);have af:=κ (h.at.stay az.o);have ap:=κ au;have aq:=κ (au.rd av);obtain⟨c,ar⟩:=ν (s.may (w1,w2));obtain⟨aA,aB⟩:=ν (s.closed);have ad:=κ (RY I.o aq.o.clock w1 w2);rw[ar] at ad;have an:=κ ar;have ac:=κ aB;have ah:=β0 am.o;have ai:=β1 am.o;have ax:=κ av;clear h ar aB au av;cases c with
 | false=>
  have ao:Hid (s.pick (w1,w2) acc=(s,ύ)):=κ (by unfold RmS.pick;rw[ώ (by rw[an.o];decide)]);rw[ao.o]
  go_enter func31,ntmps31
  go_upto_region 1 with fail
  (try rw[J])
  clear J
  go_wp2_with (go_at_call 27;(go_call ad.o as e aj ⟨rfl,d⟩;have G:=κ d;clear d))
  go_ret;exact⟨rfl,(I.o.on G.o).at,af.o.trans (I.o.at.stay G.o)⟩
 | true=>
  have ao:Hid (s.pick (w1,w2) acc=(s.stepW (w1,w2) acc,ό)):=κ (by unfold RmS.pick;rw[ϒ an.o]);rw[ao.o]
  have ay:Hid ((w1,w2)∈s.workers/\(if s.closed then !((qm s.ret (w1,w2)).getD ύ) else s.mayOpen (w1,w2))=ό):=κ (by
   have h:=an.o;unfold RmS.may at h;rw[Φ] at h
   exact⟨Ϛ h.1,h.2⟩)
  have aJ:(w1=0∨w1=1∨w1=2∨w1=3∨w1=4)/\(2<=w1->(qm s.lanes w2).isSome=ό):=by
   rcases mem_workers.1 ay.o.1 with e | e | e
   ·injection e with e3 e4
    exact⟨ϐ e3,λh=>by omega⟩
   ·injection e with e3 e4
    exact⟨ϓ (ϐ e3),λh=>by omega⟩
   ·exact⟨ϓ (ϓ e.1),λ_=>e.2.2⟩
  obtain⟨aC,aD⟩:=aJ;have ak:=κ aD;clear aD;have ae: ∀w',qh W1 w'->w'.cell? ⟨k.R,7,ϋ⟩=ϊ (μ aA):=λw' m=>by rw[<-ac.o];exact qi (qj m I.o.blk) 7 rfl
  have ag:=κ ae;have N:=κ (λw' (m:qh W1 w')=>qj m am.o);clear ae;cases aA with
  | true=>
   have U:Hid (s.stepW (w1,w2) acc=s.endW (w1,w2)):=κ (by unfold RmS.stepW;rw[ϒ ac.o]);have aI:=ap.o.num.lost;have aw:=ax.o;have aE:=κ (λw' (m:qh W1 w')=>Rd (I.o.at.on m) w1 w2 acc τ ak.o τ);clear aI aw aC
   go_enter func31,ntmps31
   go_upto_region 1 with fail
   (try rw[J])
   clear J
   go_wp2_with (first | (go_at_call 27;(go_call ad.o as e aj ⟨rfl,d⟩;have G:=κ d;have ae:=ag.o _ d;have ah:=β0 (N.o _ d);have ai:=β1 (N.o _ d);clear d)) | (go_at_call 78;(go_call aE.o _ G.o as e w4 ⟨rfl,H,t4⟩;have O:=κ H;have Y:=κ t4;clear H t4)))
   go_ret;exact⟨rfl,by rw[U.o];exact O.o,af.o.trans ((I.o.at.stay G.o).trans Y.o)⟩
  | false=>
   have aF:Hid (s.mayOpen (w1,w2)=ό):=κ (by
    have:=ay.o.2;rw[ac.o] at this
    exact this)
   rcases aC with rfl | rfl | rfl | rfl | rfl
   ·have U:Hid (s.stepW (0,w2) acc=s.read):=κ (by unfold RmS.stepW;rw[ώ (by rw[ac.o];decide),ϒ rfl]);obtain⟨b,q,al⟩: ∃b q,s.queue=b::q:=by
     have h:=aF.o;unfold RmS.mayOpen at h;rw[ϒ rfl] at h;have h:=Ϛ h;cases al:s.queue with
     | nil=>rw[al] at h;simp at h
     | cons b q=>exact⟨b,q,rfl⟩
    have aa:=κ (λw' (m:qh W1 w')=>OY (I.o.at.on m) aq.o al 0 w2 acc);clear al
    go_enter func31,ntmps31
    go_upto_region 1 with fail
    (try rw[J])
    clear J
    go_wp2_with (first | (go_at_call 27;(go_call ad.o as e aj ⟨rfl,d⟩;have G:=κ d;have ae:=ag.o _ d;have ah:=β0 (N.o _ d);have ai:=β1 (N.o _ d);clear d)) | (go_at_call 79;(go_call aa.o _ G.o as e w4 ⟨rfl,H,t4⟩;have O:=κ H;have Y:=κ t4;clear H t4)))
    go_ret;exact⟨rfl,by rw[U.o];exact O.o,af.o.trans ((I.o.at.stay G.o).trans Y.o)⟩
   ·have U:Hid (s.stepW (1,w2) acc=s.order):=κ (by unfold RmS.stepW;rw[ώ (by rw[ac.o];decide),ώ η,ϒ rfl]);have aa:=κ (λw' (m:qh W1 w')=>Nv (I.o.at.on m) aq.o 1 w2 acc)
    go_enter func31,ntmps31
    go_upto_region 1 with fail
    (try rw[J])
    clear J
    go_wp2_with (first | (go_at_call 27;(go_call ad.o as e aj ⟨rfl,d⟩;have G:=κ d;have ae:=ag.o _ d;have ah:=β0 (N.o _ d);have ai:=β1 (N.o _ d);clear d)) | (go_at_call 80;(go_call aa.o _ G.o as e w4 ⟨rfl,H,t4⟩;have O:=κ H;have Y:=κ t4;clear H t4)))
    go_ret;exact⟨rfl,by rw[U.o];exact O.o,af.o.trans ((I.o.at.stay G.o).trans Y.o)⟩
   ·have U:Hid (s.stepW (2,w2) acc=s.choose w2):=κ (by unfold RmS.stepW;rw[ώ (by rw[ac.o];decide),ώ η,ώ η,ϒ rfl]);obtain⟨l,ab⟩:=Ϟ.1 (ak.o ζ);have aa:=κ (λw' (m:qh W1 w')=>Lg (I.o.at.on m) 2 w2 acc ab);clear ab
    go_enter func31,ntmps31
    go_upto_region 1 with fail
    (try rw[J])
    clear J
    go_wp2_with (first | (go_at_call 27;(go_call ad.o as e aj ⟨rfl,d⟩;have G:=κ d;have ae:=ag.o _ d;have ah:=β0 (N.o _ d);have ai:=β1 (N.o _ d);clear d)) | (go_at_call 81;(go_call aa.o _ G.o as e w4 ⟨rfl,H,t4⟩;have O:=κ H;have Y:=κ t4;clear H t4)))
    go_ret;exact⟨rfl,by rw[U.o];exact O.o,af.o.trans ((I.o.at.stay G.o).trans Y.o)⟩
   ·have U:Hid (s.stepW (3,w2) acc=s.rewrite w2):=κ (by unfold RmS.stepW;rw[ώ (by rw[ac.o];decide),ώ η,ώ η,ώ η,ϒ rfl]);obtain⟨l,ab⟩:=Ϟ.1 (ak.o ζ);have aa:=κ (λw' (m:qh W1 w')=>FV (I.o.at.on m) 3 w2 acc ab);clear ab
    go_enter func31,ntmps31
    go_upto_region 1 with fail
    (try rw[J])
    clear J
    go_wp2_with (first | (go_at_call 27;(go_call ad.o as e aj ⟨rfl,d⟩;have G:=κ d;have ae:=ag.o _ d;have ah:=β0 (N.o _ d);have ai:=β1 (N.o _ d);clear d)) | (go_at_call 82;(go_call aa.o _ G.o as e w4 ⟨rfl,H,t4⟩;have O:=κ H;have Y:=κ t4;clear H t4)))
    go_ret;exact⟨rfl,by rw[U.o];exact O.o,af.o.trans ((I.o.at.stay G.o).trans Y.o)⟩
   ·have U:Hid (s.stepW (4,w2) acc=s.write w2 acc):=κ (by unfold RmS.stepW;rw[ώ (by rw[ac.o];decide),ώ η,ώ η,ώ η,ώ η]);obtain⟨l,ab⟩:=Ϟ.1 (ak.o ζ);have aK:=ap.o.num.wr w2 l ab;have aH:=ap.o.num.book;have aw:=ax.o;have aa:=κ (λw' (m:qh W1 w')=>Nq (I.o.at.on m) 4 w2 acc ab τ τ);clear ab aK aH aw
    go_enter func31,ntmps31
    go_upto_region 1 with fail
    (try rw[J])
    clear J
    go_wp2_with (first | (go_at_call 27;(go_call ad.o as e aj ⟨rfl,d⟩;have G:=κ d;have ae:=ag.o _ d;have ah:=β0 (N.o _ d);have ai:=β1 (N.o _ d);clear d)) | (go_at_call 77;(go_call aa.o _ G.o as e w4 ⟨rfl,H,t4⟩;have O:=κ H;have Y:=κ t4;clear H t4)))
    go_ret;exact⟨rfl,by rw[U.o];exact O.o,af.o.trans ((I.o.at.stay G.o).trans Y.o)⟩
def ln0:LnS:=Y0 0 0 0 0 0
def RmS.ln (s:RmS) (x:Int):LnS:=(qm s.lanes x).getD ln0
def Rc (h:RmX T w0 w k vp vr s F) (x:Int):Calls prog 24 #[γ k.R,ι x] w λe w'=>
  e= .returned (.tuple #[θ #[ι (s.ln x).cur,ι (s.ln x).tgt],θ #[ι (s.ln x).A.length,ι (s.ln x).B.length,ι (s.ln x).C.length],μ (s.ln x).gone,μ (qm s.lanes x).isSome])/\qh w w':=by
 obtain⟨W2,Y⟩:=ν ((w.alloc (.cells #[ι 0,ι 0] 103)).alloc (.cells #[ι 0,ι 0,ι 0] 104));have an:Hid (qh w W2):=κ (by rw[<-Y];exact Z0.al _);have ac:Hid (W2.heap[w.heap.size]? =ϊ (.cells #[ι 0,ι 0] 103 (0,0))):=κ (by rw[<-Y];exact qv (qp w _) _);have U:Hid (W2.heap[w.heap.size+1]? =ϊ (.cells #[ι 0,ι 0,ι 0] 104 (0,0))):=κ (by rw[<-Y];exact qH η);have am:=κ (h.on an.o);have bd:=β12 am.o.blk;have q:_:=xH am.o.lnm x ό;simp only[Ψ] at q;cases hl:qm s.lanes x with
 | none=>
  have ak:Hid (s.ln x=ln0):=κ (by unfold RmS.ln;rw[hl];rfl);rw[h.laneNo hl] at q;rw[ak.o]
  replace q:(Instr.lookup 90 (.map (ϊ k.ML)) (ι x) ό).run prog W2= .ok (.tuple #[π ϋ,ύ]) W2:=q
  have z0:=β0 ac.o;have bc:=β1 ac.o;have bh:=ql ac.o 0;have bi:=ql ac.o 1;have aD:=β0 U.o;have aE:=β1 U.o;have aF:=β2 U.o;have t0:=ql U.o 0;have t1:=ql U.o 1;have t2:=ql U.o 2;clear h hl
  go_enter func24,ntmps24
  go_upto_region 1 with fail
  (try rw[Y])
  clear Y;go_wp2
  (refine bodyPost_ret (v:= .tuple #[θ #[ι 0,ι 0],θ #[ι 0,ι 0,ι 0],ύ,ύ]) ?rr1 rfl ?_;(case rr1=>(simp[results,results24,go_sem,z0,bc,aD,aE,aF])))
  exact⟨rfl,((((an.o.st (ϕ _) _).st (ϕ _) _).st (G0 _ _) _).st (G0 _ _) _).st (G0 _ _) _⟩
 | some l=>
  obtain⟨p,aR,af⟩:=am.o.laneAt hl;have ak:Hid (s.ln x=l):=κ (by unfold RmS.ln;rw[hl];rfl);rw[ak.o];rw[aR] at q
  replace q:(Instr.lookup 90 (.map (ϊ k.ML)) (ι x) ό).run prog W2= .ok (.tuple #[γ p,ό]) W2:=q
  have aM:=κ (Zc af);have aK:=κ (λw' (m:qh W2 w')=>It (af.on m));have aJ:=κ (λw' (m:qh W2 w')=>XB (af.on m));obtain⟨d,ax⟩:=ν (l.cur);obtain⟨G,aA⟩:=ν (l.tgt);obtain⟨bg,aQ⟩:=ν (l.wanted);obtain⟨bb,az⟩:=ν (l.gone);obtain⟨J,av⟩:=ν (l.A.length);obtain⟨N,aw⟩:=ν (l.B.length);obtain⟨O,ay⟩:=ν (l.C.length);rw[ax,aA,aQ] at aM;rw[az] at aJ;rw[av,aw,ay] at aK;rw[ax,aA,az,av,aw,ay];clear ax aA aQ az av aw ay aR af hl h
  go_enter func24,ntmps24
  go_upto_region 1 with fail
  (try rw[Y])
  clear Y
  go_upto_region 5 with (go_at_call 67;(go_call aM.o as e aa ⟨rfl,aT⟩;have aN:=κ aT;clear aT))
  obtain⟨I,ae⟩:=ν (aa.alloc (.cells #[ι d,ι G] 103));have ap:Hid (qh W2 I):=κ (by rw[<-ae];exact aN.o.al _);have aG:Hid (I.heap[aa.heap.size]? =ϊ (.cells #[ι d,ι G] 103 (0,0))):=κ (by rw[<-ae];exact qp aa _);have aS:w.heap.size+2<=aa.heap.size:=by
   have be:=aN.o.size;have bf:=qq U.o;omega
  have aL:=κ aS;clear aS
  (try rw[ae])
  clear ae;have aX: ∀y:qC (λb=>b=w.heap.size∨b=w.heap.size+1) I,y.w'.cell? ⟨aa.heap.size,0,ϋ⟩=ϊ (ι d):=λy=>qi (y.h.blk aG.o (λe=>by have:=aL.o;omega)) 0 rfl
  have aY: ∀y:qC (λb=>b=w.heap.size∨b=w.heap.size+1) I,y.w'.cell? ⟨aa.heap.size,1,ϋ⟩=ϊ (ι G):=λy=>qi (y.h.blk aG.o (λe=>by have:=aL.o;omega)) 1 rfl
  refine zO (λb=>b=w.heap.size∨b=w.heap.size+1) I 9 [(0,ύ),(1,ύ),(3,ύ),(2,ό),(4,ό),(5,ό),(6,ό),(7,ύ),(8,ύ)] ξ ξ ?_
  refine Qs3 ?_
  (refine Ql ?_;intro K H)
  go_call aK.o _ (ap.o.dr 1) as e w5 ⟨rfl,aU⟩;have aq:Hid (qh I w5):=κ ((qh.drewN I 1).trans aU);clear aU;refine⟨_,rfl,qn (qk.of_more aq.o),H _ _ ?_⟩;clear H K
  (refine Ql ?_;intro K H)
  go_call aJ.o _ (ap.o.trans aq.o) as e w6 ⟨rfl,aV⟩;have ar:Hid (qh I w6):=κ (aq.o.trans aV);clear aV;refine⟨_,rfl,qn (qk.of_more ar.o),H _ _ ?_⟩;clear H K aX aY;have ao:=κ (ap.o.trans ar.o);have aH:=κ (qj ao.o ac.o);have aW:=κ (qj ao.o U.o);refine jY rfl rfl ?_;intro K H;refine xo 103 (.tmp 4) (.tmp 30) rfl w.heap.size 103 _ #[ι d,ι G] aH.o rfl rfl ξ rfl Z5 ?_;have ag:Hid (qk (λb=>b=w.heap.size∨b=w.heap.size+1) I (w6.setRow w.heap.size #[ι d,ι G])):=κ ((qk.of_more ar.o).trans ((qk.setRow w6 w.heap.size #[ι d,ι G]).mono (λb au=>ϐ au)));have aI:=κ (jG aH.o #[ι d,ι G]);have aj:Hid ((w6.setRow w.heap.size #[ι d,ι G]).heap[w.heap.size+1]? =ϊ (.cells #[ι 0,ι 0,ι 0] 104 (0,0))):=κ ((qk.setRow w6 w.heap.size #[ι d,ι G]).blk aW.o τ);have aO:Hid (qh w (w6.setRow w.heap.size #[ι d,ι G])):=κ ((an.o.trans ao.o).row (ϕ _) _);refine⟨qn ag.o,H _ _ ?_⟩;clear H K;obtain⟨ab,aB⟩:=ν (w6.setRow w.heap.size #[ι d,ι G]);rw[aB] at ag aI aj aO
  (try rw[aB])
  clear aB;refine jY rfl rfl ?_;intro K H;refine xo 104 (.tmp 5) (.tmp 32) rfl (w.heap.size+1) 104 _ #[ι J,ι N,ι O] aj.o rfl rfl ξ rfl Z5 ?_;have ah:Hid (qk (λb=>b=w.heap.size∨b=w.heap.size+1) I (ab.setRow (w.heap.size+1) #[ι J,ι N,ι O])):=κ (ag.o.trans ((qk.setRow ab (w.heap.size+1) #[ι J,ι N,ι O]).mono (λb au=>ϓ au)));have ad:=κ (jG aj.o #[ι J,ι N,ι O]);have ai:Hid ((ab.setRow (w.heap.size+1) #[ι J,ι N,ι O]).heap[w.heap.size]? =ϊ (.cells #[ι d,ι G] 103 (0,0))):=κ ((qk.setRow ab (w.heap.size+1) #[ι J,ι N,ι O]).blk aI.o τ);have aP:Hid (qh w (ab.setRow (w.heap.size+1) #[ι J,ι N,ι O])):=κ (aO.o.row (K4 _) _);refine⟨qn ah.o,H _ _ ?_⟩;clear H K;obtain⟨w8,aC⟩:=ν (ab.setRow (w.heap.size+1) #[ι J,ι N,ι O]);rw[aC] at ah ai ad aP
  (try rw[aC])
  clear aC;go_simp
  iterate 2 (refine qz rfl rfl (qn ah.o) ?_;intro K H;go_big_quiet_op;go_big_quiet_on)
  refine qD ?_;have aZ:=β0 ai.o;have ba:=β1 ai.o;have aD:=β0 ad.o;have aE:=β1 ad.o;have aF:=β2 ad.o;go_wp2
  (refine bodyPost_ret (v:= .tuple #[θ #[ι d,ι G],θ #[ι J,ι N,ι O],bb,ό]) ?rr2 rfl ?_;(case rr2=>(simp[results,results24,go_sem,aZ,ba,aD,aE,aF])))
  exact⟨rfl,aP.o⟩
def FR (h:RmX T w0 w k vp vr s F) (x:Int) (d:(s.ln x).W.length<=1000000):Calls prog 14 #[γ k.R,ι x] w λe w'=>(∃v,e= .returned v/\jd 2 (ROn w.heap.size) (λb=>b<w.heap.size) w' w.heap.size 56 v (s.ln x).W)/\qh w w':=by
 have aa:=β12 h.blk;have q:_:=xH h.lnm x ό;simp only[Ψ] at q;cases hl:qm s.lanes x with
 | none=>
  have G:Hid (s.ln x=ln0):=κ (by unfold RmS.ln;rw[hl];rfl)
  replace q:(Instr.lookup 90 (.map (ϊ k.ML)) (ι x) ό).run prog w= .ok (.tuple #[π ϋ,ύ]) w:=by rw[h.laneNo hl] at q;exact q
  rw[G.o];clear h hl d
  go_enter func14,ntmps14
  go_wp2;go_ret;exact⟨⟨_,rfl,jd.nil _ _ _ _ _ _⟩,qh.refl _⟩
 | some l=>
  obtain⟨p,I,H⟩:=h.laneAt hl;have G:Hid (s.ln x=l):=κ (by unfold RmS.ln;rw[hl];rfl);rw[G.o] at d ⊢
  replace q:(Instr.lookup 90 (.map (ϊ k.ML)) (ι x) ό).run prog w= .ok (.tuple #[γ p,ό]) w:=by rw[I] at q;exact q
  have O:=κ (U7 H d);clear h hl I H d
  go_enter func14,ntmps14
  go_wp2_with (go_at_call 48;(go_call O.o as e w2 ⟨⟨v,rfl,N⟩,J⟩;have Y:=κ N;have U:=κ J;clear N J))
  go_ret;exact⟨⟨_,rfl,Y.o⟩,U.o⟩
def YO (h:zQ l 1=ύ):(qP l).1=l:=by
 rcases xX (s:=l) with ⟨_,e⟩ | ⟨d,_⟩
 ·rw[e]
 ·rw[h] at d;cases d
def Zt (h:l.B=[]):(qN l).1=l:=by
 rcases zj (s:=l) with ⟨_,e⟩ | ⟨_,_,_,d,_⟩
 ·rw[e]
 ·rw[h] at d;cases d
def Cw (h:l.C=[]):(qJ l ό).1=l:=by
 rcases zc (s:=l) ό with ⟨_,e⟩ | ⟨_,_,d,_⟩
 ·rw[e]
 ·rw[h] at d;cases d
def NL (h:zQ l 1=ό): ∃x A,l.A=x::A:=by
 rcases xX (s:=l) with ⟨d,_⟩ | ⟨_,x,A,G,_⟩
 ·rw[h] at d;cases d
 ·exact⟨x,A,G⟩
def RD (l:LnS):zQ l 2=decide (0<l.B.length):=rfl
def RC (l:LnS):zQ l 3=decide (0<l.C.length):=rfl
def Ca {L:List α} (h: ¬0<L.length):L=[]:=A4.1 τ
structure OnL (Wk:List Og) (s:RmS):Prop where
 closed:s.closed=ύ
 workers:s.workers=Wk
 queue:s.queue=[]
 held: ∀o t,qm s.strs o=ϊ t->t.buf.holds=[]
def OnL.ready {G:List Og} (h:OnL G s):s.ready=ϋ:=by
 unfold RmS.ready;rw[Q5];intro o _ d;unfold RmS.readyAt at d;cases ht:qm s.strs o with
 | none=>rw[ht] at d;cases d
 | some t=>
  rw[ht] at d;simp only at d;unfold jU at d;rw[h.held o t ht] at d;cases d
def Zi {y:Int} (h:s'.lanes=qB s.lanes y l) (x:Int):s'.ln x=if x=y then l else s.ln x:=by
 unfold RmS.ln;rw[h,qE];split<;>rfl
def OnL.pick {O:List Og} (h:OnL O s) (w:Og):OnL O (s.pick w ό).1/\ ∀x,x∈subIds->(s.pick w ό).1.ln x=if w=(2,x) then (qP (s.ln x)).1 else if w=(3,x) then (qN (s.ln x)).1 else if w=(4,x) then (qJ (s.ln x) ό).1 else s.ln x:=by
 obtain⟨w1,w2⟩:=w;have d:=(zJ h.closed (w1,w2) ό).1;unfold RmS.pick at d ⊢;split
 ·rename_i I;rw[ϒ I] at d;have U:=I;unfold RmS.may at U;rw[Φ] at U;have ad:=mem_workers.1 (Ϛ U.1);have inl: ∀s',OpP s s'->s'.queue=s.queue->s'.strs=s.strs->OnL O s':=λs' k H J=>⟨k.closed.trans h.closed,k.workers.trans h.workers,H.trans h.queue,λo t ab=>by rw[J] at ab;exact h.held o t ab⟩
  unfold RmS.stepW at d ⊢;rw[ώ (by rw[h.closed];decide)] at d ⊢;rcases ad with e | e | ⟨H,J,e3⟩
  ·injection e with H J
   subst H;subst J;simp only[Ψ] at d ⊢;have:s.read=s:=by unfold RmS.read;rw[h.queue]
   rw[this];exact⟨h,λx _=>by simp⟩
  ·injection e with H J
   subst H;subst J;have:s.order=s:=by unfold RmS.order;rw[h.ready]
   simp only[this,Ψ,ώ (by decide: ¬(1:Int)=0)] at d ⊢;exact⟨h,λx _=>by simp⟩
  ·simp only at H J e3;cases hl:qm s.lanes w2 with
   | none=>rw[hl] at e3;cases e3
   | some l=>
    have N:s.ln w2=l:=by unfold RmS.ln;rw[hl];rfl
    rcases H with rfl | rfl | rfl
    ·simp only[Ψ,ώ (by decide: ¬(2:Int)=0),ώ (by decide: ¬(2:Int)=1)] at d ⊢;refine⟨inl _ d (xv s w2).queue (by unfold RmS.choose;rw[hl]),λx _=> ?_⟩;rw[Zi (y:=w2) (l:=(qP l).1) (by unfold RmS.choose;rw[hl])];by_cases c:x=w2
     ·subst c;rw[ϒ rfl,ϒ rfl,N]
     ·rw[ώ c,ώ (λG=>c (by injection G with _ G;exact G.symm)),ώ η,ώ η]
    ·simp only[Ψ,ώ (by decide: ¬(3:Int)=0),ώ (by decide: ¬(3:Int)=1),ώ (by decide: ¬(3:Int)=2)] at d ⊢;refine⟨inl _ d (j6 s w2).queue (by unfold RmS.rewrite;rw[hl]),λx _=> ?_⟩;rw[Zi (y:=w2) (l:=(qN l).1) (by unfold RmS.rewrite;rw[hl])];by_cases c:x=w2
     ·subst c;rw[ϒ rfl,ώ η,ϒ rfl,N]
     ·rw[ώ c,ώ η,ώ (λG=>c (by injection G with _ G;exact G.symm)),ώ η]
    ·simp only[ώ (by decide: ¬(4:Int)=0),ώ (by decide: ¬(4:Int)=1),ώ (by decide: ¬(4:Int)=2),ώ (by decide: ¬(4:Int)=3)] at d ⊢;refine⟨inl _ d (kR s w2 ό).2 (by unfold RmS.write;rw[hl]),λx _=> ?_⟩;rw[Zi (y:=w2) (l:=(qJ l ό).1) (by unfold RmS.write;rw[hl])];by_cases c:x=w2
     ·subst c;rw[ϒ rfl,ώ η,ώ η,ϒ rfl,N]
     ·rw[ώ c,ώ η,ώ η,ώ (λG=>c (by injection G with _ G;exact G.symm))]
 ·rename_i I;refine⟨h,λx N=> ?_⟩;simp only;unfold RmS.may at I;rw[ώ (by rw[h.closed];decide)] at I;have Y: ∀n:Int,(n=2∨n=3∨n=4)->(w1,w2)=(n,x)->zQ (s.ln x) (xr n)=ύ:=λn aa e=>by
   injection e with H J
   subst H;subst J;cases hl:qm s.lanes w2 with
   | none=>
    have:s.ln w2=ln0:=by unfold RmS.ln;rw[hl];rfl
    rw[this];rcases aa with rfl | rfl | rfl<;>rfl
   | some l=>
    have e:s.ln w2=l:=by unfold RmS.ln;rw[hl];rfl
    have ac:((w1,w2):Og)∈s.workers:=mem_workers.2 (ϓ (ϓ ⟨aa,N,by simp only;rw[hl];rfl⟩));rw[Ϩ ac,E8] at I;unfold RmS.mayOpen at I;simp only at I;rw[ώ τ,ώ τ,hl] at I;rw[e]
    simpa using I
  split
  ·rename_i e;exact(YO (Y 2 (ϐ rfl) e)).symm
  ·split
   ·rename_i e;have:=Y 3 (ϓ (ϐ rfl)) e;rw[show xr 3=2 from rfl,RD] at this;exact(Zt (Ca (B9 this))).symm
   ·split
    ·rename_i e;have:=Y 4 (ϓ (ϓ rfl)) e;rw[show xr 4=3 from rfl,RC] at this;exact(Cw (Ca (B9 this))).symm
    ·rfl
section
variable {Wk:List Og} {s:RmS} {R:Nat} {x:Int}
def OnL.lnk (h:OnL Wk s) (G:x∈subIds) (d:LnK R (s.ln x)) (v:Og):LnK R ((s.pick v ό).1.ln x):=by
 rw[(h.pick v).2 x G];split
 ·exact d.choose
 ·split
  ·exact d.rewrite
  ·split
   ·exact d.write ό
   ·exact d
def ZB (l:LnS):((qP l).1=l)∨2* (qP l).1.A.length+(qP l).1.B.length<2* l.A.length+l.B.length:=by
 rcases xX (s:=l) with ⟨_,e⟩ | ⟨_,y,A,d,_,e⟩
 ·exact ϐ (by rw[e])
 ·refine ϓ ?_;rw[e,d];simp only[Ϙ];split
  ·rw[Ϗ,B4];omega
  ·omega
def JR (l:LnS):((qN l).1=l)∨2* (qN l).1.A.length+(qN l).1.B.length<2* l.A.length+l.B.length:=by
 rcases zj (s:=l) with ⟨_,e⟩ | ⟨y,f,B,d,e⟩
 ·exact ϐ (by rw[e])
 ·refine ϓ ?_;rw[e,d];simp only[Ϙ];omega
def vz (l:LnS):(qJ l ό).1.A=l.A/\(qJ l ό).1.B=l.B/\(qJ l ό).1.room=l.room/\(qJ l ό).1.C=l.C.tail:=by
 rcases zc (s:=l) ό with ⟨d,e⟩ | ⟨o,C,d,⟨_,e⟩ | ⟨h,_⟩⟩
 ·rw[e,d];exact⟨rfl,rfl,rfl,rfl⟩
 ·rw[e,d];exact⟨rfl,rfl,rfl,rfl⟩
 ·cases h
def onP (x:Int) (t:RmS) (v:Og):Prop:=v=(2,x)/\zQ (t.ln x) 1=ό∨v=(3,x)/\(t.ln x).B≠[]
def XL (l:LnS):Nat:=2* l.A.length+l.B.length
def PW (h:OnL Wk s) (I:x∈subIds) (af:LnK R (s.ln x)) (G:List (List Og)) (aa: ∀L∈G,((2,x):Og)∈L/\((3,x):Og)∈L):
  OnL Wk (s.picks ό G.flatten)/\LnK R ((s.picks ό G.flatten).ln x)/\XL ((s.picks ό G.flatten).ln x)<=XL (s.ln x)-G.length:=by
 have Y: ∀(t:RmS),OnL Wk t-> ∀v:Og,(t.pick v ό).1.ln x=t.ln x∨XL ((t.pick v ό).1.ln x)<XL (t.ln x)∨(t.pick v ό).1.ln x=(qJ (t.ln x) ό).1:=λt ag v=>by
  rw[(ag.pick v).2 x I];split
  ·rcases ZB (t.ln x) with e | e
   ·exact ϐ e
   ·exact ϓ (ϐ e)
  ·split
   ·rcases JR (t.ln x) with e | e
    ·exact ϐ e
    ·exact ϓ (ϐ e)
   ·split
    ·exact ϓ (ϓ rfl)
    ·exact ϐ rfl
 obtain⟨⟨a,b⟩,c⟩:=uT (step:=λs w=>(RmS.pick s w ό).1) (Inv:=λt=>OnL Wk t/\LnK R (t.ln x)) (f:=λt=>XL (t.ln x)) (P:=onP x)
  (λt v h=>⟨(h.1.pick v).1,h.1.lnk I h.2 v⟩)
  (λt v h=>by
   obtain⟨U,J,_⟩:=vz (t.ln x);rcases Y t h.1 v with e | e | e
   ·rw[e];exact ϕ _
   ·exact P8 e
   ·rw[e];unfold XL;rw[U,J];exact ϕ _)
  (λt v u h d=>by
   obtain⟨U,J,ah,_⟩:=vz (t.ln x);rcases Y t h.1 v with e | e | e
   ·exact ϓ (by unfold onP at d ⊢;rw[e];exact d)
   ·exact ϐ e
   ·refine ϓ ?_;unfold onP at d ⊢;rw[e];have:zQ (qJ (t.ln x) ό).1 1=zQ (t.ln x) 1:=by unfold zQ;rw[U,J,ah];rfl
    rw[this,J]
    exact d)
  (λt v h d=>by
   rcases d with ⟨rfl,d⟩ | ⟨rfl,d⟩
   ·rw[(h.1.pick _).2 x I,ϒ rfl];rcases ZB (t.ln x) with e | e
    ·obtain⟨y,A,am⟩:=NL d;rcases xX (s:=t.ln x) with ⟨H,_⟩ | ⟨_,ai,A',ad,_,N⟩
     ·rw[d] at H;cases H
     ·have:=ϰ (λl:LnS=>l.A.length) e;rw[N] at this;simp only at this;rw[ad,Ϙ] at this;omega
    ·exact e
   ·rw[(h.1.pick _).2 x I,ώ η,ϒ rfl];rcases JR (t.ln x) with e | e
    ·rcases zj (s:=t.ln x) with ⟨H,_⟩ | ⟨ai,ak,aj,ae,N⟩
     ·exact(d H).elim
     ·have:=ϰ (λl:LnS=>l.B.length) e;rw[N] at this;simp only at this;rw[ae,Ϙ] at this;omega
    ·exact e)
  [(2,x),(3,x)] (λt h O=>by
   by_cases hb:(t.ln x).B=[]
   ·refine⟨(2,x),η,ϐ ⟨rfl, ?_⟩⟩;unfold XL at O;rw[hb] at O;have H:=h.2.room;have al:=h.2.one;show (decide (0<(t.ln x).A.length)&&decide (¬(t.ln x).B.length=(t.ln x).room))=ό;rw[Φ,C2,C2,hb];simp only[ϱ] at O ⊢;omega
   ·exact⟨(3,x),η,ϓ ⟨rfl,hb⟩⟩) G s ⟨h,af⟩ (λL ab u ac=>by
   simp only[ϫ,O1,or_false] at ac;rcases ac with rfl | rfl
   ·exact(aa L ab).1
   ·exact(aa L ab).2)
 exact⟨a,b,c⟩
def PV (h:OnL Wk s) (ae:x∈subIds) (Y:(s.ln x).A=[]) (aa:(s.ln x).B=[]) (d:List (List Og)) (ab: ∀L∈d,((4,x):Og)∈L):
  OnL Wk (s.picks ό d.flatten)/\((s.picks ό d.flatten).ln x).A=[]/\((s.picks ό d.flatten).ln x).B=[]/\((s.picks ό d.flatten).ln x).C.length<=(s.ln x).C.length-d.length:=by
 have ag: ∀l:LnS,l.A=[]->zQ l 1=ύ:=λl e=>by
  cases h:zQ l 1 with
  | false=>rfl
  | true=>obtain⟨_,_,q⟩:=NL h;rw[e] at q;cases q
 have H: ∀(t:RmS),OnL Wk t->(t.ln x).A=[]->(t.ln x).B=[]-> ∀v:Og,(t.pick v ό).1.ln x=if v=(4,x) then (qJ (t.ln x) ό).1 else t.ln x:=λt ad O U v=>by
  rw[(ad.pick v).2 x ae];split
  ·rename_i e;rw[e,ώ η];exact YO (ag _ O)
  ·split
   ·rename_i e;rw[e,ώ η];exact Zt U
   ·rfl
 obtain⟨⟨a,b,c⟩,N⟩:=uT (step:=λs w=>(RmS.pick s w ό).1) (Inv:=λt=>OnL Wk t/\(t.ln x).A=[]/\(t.ln x).B=[]) (f:=λt=>(t.ln x).C.length) (P:=λt v=>v=(4,x)/\0<(t.ln x).C.length)
  (λt v h=>by
   refine⟨(h.1.pick v).1, ?_⟩;rw[H t h.1 h.2.1 h.2.2 v];obtain⟨ah,ai,_⟩:=vz (t.ln x);split
   ·exact⟨ah.trans h.2.1,ai.trans h.2.2⟩
   ·exact h.2)
  (λt v h=>by
   rw[H t h.1 h.2.1 h.2.2 v];obtain⟨_,_,_,G⟩:=vz (t.ln x);split
   ·rw[G,F3];omega
   ·exact ϕ _)
  (λt v u h I=>by
   rw[H t h.1 h.2.1 h.2.2 v];obtain⟨_,_,_,G⟩:=vz (t.ln x);split
   ·refine ϐ ?_;rw[G,F3];omega
   ·exact ϓ I)
  (λt v h I=>by
   rw[H t h.1 h.2.1 h.2.2 v,ϒ I.1];obtain⟨_,_,_,G⟩:=vz (t.ln x)
   rw[G,F3];omega)
  [(4,x)] (λt h af=>⟨(4,x),Γ.2 rfl,rfl,af⟩) d s ⟨h,Y,aa⟩ (λL ac u J=>by rw[Γ] at J;rw[J];exact ab L ac)
 exact⟨a,b,c,N⟩
end
end Go.Proofs.YtlmllmonabafjaaGreatDoor
