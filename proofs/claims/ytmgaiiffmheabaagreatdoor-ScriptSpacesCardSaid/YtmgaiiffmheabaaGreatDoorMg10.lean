/- x -/
import Derived.Test.YtmgaiiffmheabaaGreatDoorMg9
import Derived.Test.YtmgaiiffmheabaaGreatDoorMg20
namespace Go.Proofs.YtmgaiiffmheabaaGreatDoor
open Option renaming some->ϊ,none->ϋ
open Bool renaming true->ό,false->ύ
open Go.Value renaming bool->μ,slice->δ,pointer->π,agg->θ
open Go.IntKind renaming i64->ι,u8->υ,u16->φ,u32->ω,i32->χ,u64->ψ
set_option linter.all false
set_option maxHeartbeats 8000000
open Go.RowKit
set_option maxRecDepth 100000
open _root_.Go.Proofs.Tryz
variable {s s':RmS} {w w' w0:World} {n p cap:Nat} {x d:Int} {T:Nat->Tg} {k:RmK} {vp vr v:Value} {F:List Nat} {l:LnS} {α K V:Type} {f:RmS->α->RmS} {o:Og} {b:Jb} {P P':Int->Int->Prop} {t' t:zu} {L:List Og} {H:Option Addr} {a:Option α}
section
variable (s:LnS)
def Rc (x:ItS):(xp s x).1=s/\(xp s x).2.2.2≠0/\(xp s x).2.2.1=ύ∨s.gone=ύ/\s.wanted=ό/\jJ x.pk=ό/\jj x.layer=ό/\(xp s x).2.2.2=0/\(xp s x).1={s with A:=if s.A.length<s.room then s.A++[x] else s.A.tail++[x]}/\(xp s x).2.1=(if s.A.length<s.room then 0 else (s.A.head?.map (·.id)).getD 0)/\(xp s x).2.2.1=decide (¬s.A.length<s.room):=by
 unfold xp;split
 ·exact ϑ ⟨rfl,η,rfl⟩
 ·rename_i d;have d:jj x.layer=ό/\jJ x.pk=ό:=by simpa using d
  split
  ·exact ϑ ⟨rfl,η,rfl⟩
  ·rename_i G;split
   ·exact ϑ ⟨rfl,η,rfl⟩
   ·rename_i H;refine ϕ ⟨by simpa using G,by simpa using H,d.2,d.1,rfl, ?_, ?_, ?_⟩
    all_goals (unfold yX;split<;>rename_i I<;>simp[I])
def XJ:(vC s 1=ύ/\jf s=(s,0,0,ύ))∨(vC s 1=ό/\ ∃x A,s.A=x::A/\s.B.length≠s.room/\jf s=({s with A:=A,cur:=(xJ s.cur s.tgt x.layer x.key).1,B:=if (xJ s.cur s.tgt x.layer x.key).2.1=0 then s.B++[(x,(xJ s.cur s.tgt x.layer x.key).2.2)] else s.B},x.id,(xJ s.cur s.tgt x.layer x.key).2.1,ό)):=by
 cases hm:vC s 1 with
 | false=>exact ϑ ⟨rfl,by unfold jf;rw[ϓ hm]⟩
 | true=>
  have d:(decide (0<s.A.length)&&decide (¬s.B.length=s.room))=ό:=hm;rw[C2] at d;cases hA:s.A with
  | nil=>rw[hA] at d;simp at d
  | cons x A=>exact ϕ ⟨rfl,x,A,rfl,by simpa using d.2,by unfold jf;rw[Ϗ (by rw[hm];decide),hA]⟩
def qb4:(s.B=[]/\qY s=(s,0,ύ,ύ))∨(∃x f B,s.B=(x,f)::B/\qY s=({s with B:=B,rw:=ul s.rw x.pk f,C:=if s.C.length<s.room then s.C++[(x.id,pkB (kY s.rw x.pk f))] else s.C.tail++[(x.id,pkB (kY s.rw x.pk f))]},(if s.C.length<s.room then 0 else (s.C.head?.map (·.1)).getD 0),decide (¬s.C.length<s.room),ό)):=by
 cases hB:s.B with
 | nil=>exact ϑ ⟨rfl,by unfold qY;rw[hB]⟩
 | cons y B=>
  obtain⟨x,f⟩:=y;refine ϕ ⟨x,f,B,rfl, ?_⟩;unfold qY NJ;rw[hB];by_cases h:s.C.length<s.room<;>simp[h]
def uV (acc:Bool):(s.C=[]/\qX s acc=(s,0,0,ύ))∨(∃o C,s.C=o::C/\((V2 s acc).2.2=ύ/\qX s acc=({s with C:=if acc then C else o::C,W:=if acc then s.W++[o] else s.W,row:=(V2 s acc).1,gone:=(V2 s acc).2.1},o.1,(if acc then 1 else 0),ό)∨
  acc=ύ/\s.gone=ύ/\(V2 s acc).2.1=ό/\qX s acc=({s with A:=[],B:=[],C:=[],row:=(V2 s acc).1,gone:=(V2 s acc).2.1},o.1,7,ό))):=by
 cases hC:s.C with
 | nil=>exact ϑ ⟨rfl,by unfold qX;rw[hC]⟩
 | cons o C=>
  refine ϕ ⟨o,C,rfl, ?_⟩;cases hb:(V2 s acc).2.2 with
  | false=>exact ϑ ⟨rfl,by unfold qX;rw[hC];simp[hb]⟩
  | true=>
   have d:s.gone=ύ:=by
    cases d:s.gone with
    | false=>rfl
    | true=>unfold V2 at hb;rw[ϓ d] at hb;simp at hb
   have H:acc=ύ:=by
    cases acc with
    | false=>rfl
    | true=>unfold V2 at hb;rw[Ϗ (by rw[d];decide),ϓ rfl] at hb;simp at hb
   subst H;have G:(V2 s ύ).2.1=(V2 s ύ).2.2:=by unfold V2;rw[Ϗ (by rw[d];decide)];rfl
   exact ϕ ⟨rfl,d,by rw[G];exact hb,by unfold qX;rw[hC];simp[hb]⟩
def NR (n:Int):(jO s n).1=s∨s.gone=ύ/\(jO s n).1={s with wanted:=ό,cur:=if s.wanted then s.cur else -1,tgt:=n}:=by
 unfold jO;split
 ·exact ϑ rfl
 ·split
  ·exact ϑ rfl
  ·rename_i h;exact ϕ ⟨by simpa using h,rfl⟩
end
def xI (s:LnS):List Int:=s.A.map (·.id)++s.B.map (·.1.id)++s.C.map (·.1)
def QC (m:Bk) (sub f:Int) (k:Int×Int):qh (vM m sub f) k=(qh m k).map λv=>if k.1=sub/\v=0 then f else v:=by
 unfold vM
 induction m with
 | nil=>simp[qh]
 | cons p l ih=>
  obtain⟨⟨a,c⟩,g⟩:=p;simp only[Ϛ];by_cases h:a=sub/\g=0
  ·rw[ϓ h];unfold qh;by_cases e:k=(a,c)
   ·subst e;simp[h]
   ·simp[e,ih]
  ·rw[Ϗ h];unfold qh;by_cases e:k=(a,c)
   ·subst e;simp[h]
   ·simp[e,ih]
def xM (strs:List (Og×zu)) (id:Int):Prop:= ∃o t,qh strs o=ϊ t/\id∈thJ t.buf.holds
structure qR (P:Int->Int->Prop) (s:RmS):Prop where
 org: ∀o t,qh s.strs o=ϊ t->o∈orgs
 nd: ∀o t,qh s.strs o=ϊ t->(thJ t.buf.holds).Nodup
 dis: ∀o t o' t',qh s.strs o=ϊ t->qh s.strs o'=ϊ t'-> ∀id,id∈thJ t.buf.holds->id∈thJ t'.buf.holds->o=o'
 few: ∀o t,qh s.strs o=ϊ t-> ∀id∈thJ t.buf.holds,0<=id/\id<(s.pks.length:Int)
 sub: ∀x l,qh s.lanes x=ϊ l->x∈subIds/\1<=l.room/\(xI l).Nodup
 owd: ∀x l,qh s.lanes x=ϊ l-> ∀id∈xI l,qh s.book (x,id)=ϊ 0/\ ¬xM s.strs id/\ ¬P x id
 src: ∀x id,qh s.book (x,id)=ϊ 0-> ∃l,qh s.lanes x=ϊ l/\l.gone=ύ/\l.wanted=ό/\(id∈xI l∨xM s.strs id∨P x id)
 bel: ∀x id v,qh s.book (x,id)=ϊ v->0<=id/\id<(s.pks.length:Int)
def OwO (s:RmS):Prop:=qR (λ_ _=>False) s
def ye (b:Bk) (x id f:Int) (d:1<=f/\f<=8) (k:Int×Int):qh (jp b x id f) k=if k=(x,id)/\qh b k=ϊ 0 then ϊ f else qh b k:=by
 unfold jp;by_cases h:qh b (x,id)=ϊ 0
 ·rw[ϓ h];unfold zi;rw[ϓ d,ϓ (by rw[h];rfl),ϓ (by rw[h];rfl),qF];by_cases e:k=(x,id)
  ·rw[ϓ e,ϓ ⟨e,by rw[e];exact h⟩]
  ·rw[Ϗ e,Ϗ (λc=>e c.1)]
 ·rw[Ϗ h];by_cases e:k=(x,id)
  ·rw[Ϗ (λc=>h (by rw[<-e];exact c.2))]
  ·rw[Ϗ (λc=>e c.1)]
def yO (x f:Int) (H:1<=f/\f<=8) (k:Int×Int): ∀(E:List Int) (b:Bk),qh (E.foldl (λb id=>jp b x id f) b) k=if (k.1=x/\k.2∈E)/\qh b k=ϊ 0 then ϊ f else qh b k
 | [],b=>by simp
 | id::E,b=>by
  rw[A6,yO x f H k E,ye b x id f H];obtain⟨G,d⟩:=k;have I:f≠0:=by omega
  by_cases h0:qh b (G,d)=ϊ 0
  ·by_cases e:G=x<;>by_cases e2:d=id<;>by_cases e3:d∈E<;>simp[h0,e,e2,e3]
   all_goals (simp_all)
  ·by_cases e:G=x<;>by_cases e2:d=id<;>by_cases e3:d∈E<;>simp[h0]
def yv (id f:Int) (H:1<=f/\f<=8) (k:Int×Int): ∀(E:List Int) (b:Bk),qh (xG b E id f) k=if (k.2=id/\k.1∈E)/\qh b k=ϊ 0 then ϊ f else qh b k
 | [],b=>by simp[xG]
 | x::E,b=>by
  have I:=yv id f H k E (jp b x id f);unfold xG at I ⊢;rw[A6,I,ye b x id f H];obtain⟨d,G⟩:=k;have J:f≠0:=by omega
  by_cases h0:qh b (d,G)=ϊ 0
  ·by_cases e:G=id<;>by_cases e2:d=x<;>by_cases e3:d∈E<;>simp[h0,e,e2,e3]
   all_goals (simp_all)
  ·by_cases e:G=id<;>by_cases e2:d=x<;>by_cases e3:d∈E<;>simp[h0]
def qR.iff (h:qR P s) (e: ∀x i,P x i↔P' x i):qR P' s:=
  ⟨h.org,h.nd,h.dis,h.few,h.sub,λx l J i hi=>by obtain⟨d,G,H⟩:=h.owd x l J i hi;exact⟨d,G,λc=>H ((e x i).2 c)⟩,
   λx i hi=>by obtain⟨l,d,G,H,I⟩:=h.src x i hi;exact⟨l,d,G,H,by rw[<-e];exact I⟩,h.bel⟩
def qR.same (h:qR P s) (Y:s'.strs=s.strs) (aa:s'.lanes=s.lanes) (ab:s'.book=s.book) (ac:s'.pks=s.pks):qR P s':=by
 obtain⟨J,N,O,H,U,d,G,I⟩:=h;rw[<-Y] at J N O H d G;rw[<-aa] at U d G;rw[<-ab] at d G I;rw[<-ac] at H I;exact⟨J,N,O,H,U,d,G,I⟩
def qR.laneN (h:qR P s) {l':LnS} (N:qh s.lanes x=ϊ l) (J E:List Int) (f:Int) (ab:1<=f/\f<=8) (ad:(xI l'++E).Perm (J++xI l)) (ae: ∀i∈J,P x i/\ ¬xM s.strs i/\qh s.book (x,i)=ϊ 0) (U:J.Nodup) (al:l'.room=l.room) (aj:l'.gone=l.gone) (am:l.wanted=ό->l'.wanted=ό):
  qR (λy i=>P y i/\ ¬(y=x/\i∈J)) {s with lanes:=qx s.lanes x l',book:=E.foldl (λb id=>jp b x id f) s.book}:=by
 have ai:f≠0:=by omega
 have ak:(xI l'++E).Nodup:=by
  rw[ad.nodup_iff,G8];refine⟨U,(h.sub x l N).2.2,λa ag b ah e=> ?_⟩;subst e;exact(h.owd x l N a ah).2.2 (ae a ag).1
 have U:=G8.1 ak;refine⟨h.org,h.nd,h.dis,h.few,λy m G=> ?_,λy m G id ac=> ?_,λy id O=> ?_,λy id v Y=> ?_⟩
 ·rw[qF] at G;split at G
  ·rename_i e;injection G with e2
   subst e e2;exact⟨(h.sub _ l N).1,by rw[al];exact(h.sub _ l N).2.1,U.1⟩
  ·exact h.sub y m G
 ·simp only at G ⊢;rw[qF] at G;rw[yO x f ab];split at G
  ·rename_i e;injection G with e2
   subst e e2;have af: ¬id∈E:=λc=>U.2.2 id ac id c rfl
   rw[Ϗ (λc=>af c.1.2)];rcases Ϫ.1 (ad.subset (Ω _ ac)) with hi | hi
   ·obtain⟨I,H,d⟩:=ae id hi;exact⟨d,H,λc=>c.2 ⟨rfl,hi⟩⟩
   ·obtain⟨I,H,d⟩:=h.owd y l N id hi;exact⟨I,H,λc=>d c.1⟩
  ·rename_i e;obtain⟨I,H,d⟩:=h.owd y m G id ac;exact⟨by rw[Ϗ (λc=>e c.1.1)];exact I,H,λc=>d c.1⟩
 ·simp only at O ⊢;rw[yO x f ab] at O;split at O
  ·injection O with e
   exact ϧ e ai
  ·rename_i aa;obtain⟨m,G,I,H,d⟩:=h.src y id O;rw[qF];by_cases e:y=x
   ·subst e;rw[N] at G;injection G with e2
    subst e2;refine⟨l',by rw[ϓ rfl],by rw[aj];exact I,am H, ?_⟩;have key:id∈J++xI l->id∈xI l':=λd=>by
     rcases Ϫ.1 (ad.symm.subset d) with h4 | h4
     ·exact h4
     ·exact ϧ ⟨⟨rfl,h4⟩,O⟩ aa
    rcases d with d | d | d
    ·exact ϑ (key (ϐ _ d))
    ·exact ϕ (ϑ d)
    ·by_cases hi:id∈J
     ·exact ϑ (key (Ω _ hi))
     ·exact ϕ (ϕ ⟨d,λc=>hi c.2⟩)
   ·refine⟨m,by rw[Ϗ e];exact G,I,H, ?_⟩;rcases d with d | d | d
    ·exact ϑ d
    ·exact ϕ (ϑ d)
    ·exact ϕ (ϕ ⟨d,λc=>e c.1⟩)
 ·simp only at Y;rw[yO x f ab] at Y;split at Y
  ·rename_i aa;exact h.bel y id 0 aa.2
  ·exact h.bel y id v Y
def qR.lane (h:qR P s) {l':LnS} (H:qh s.lanes x=ϊ l) (E:List Int) (f:Int) (d:1<=f/\f<=8) (I:(xI l'++E).Perm (xI l)) (J:l'.room=l.room) (G:l'.gone=l.gone) (N:l.wanted=ό->l'.wanted=ό):
  qR P {s with lanes:=qx s.lanes x l',book:=E.foldl (λb id=>jp b x id f) s.book}:=
 (h.laneN H [] E f d I (λi hi=>by simp at hi) N5 J G N).iff λy i=>by simp
def qR.endL (h:qR P s) (x:Int) {L:List (Int×LnS)} {b:Bk} (J: ∀y,y≠x->qh L y=qh s.lanes y) (U: ∀m,qh L x=ϊ m->x∈subIds/\1<=m.room/\xI m=[])
  (I: ∀y i,y≠x->qh b (y,i)=qh s.book (y,i)) (Y: ∀i,qh b (x,i)≠ϊ 0) (aa: ∀i v,qh b (x,i)=ϊ v-> ∃v',qh s.book (x,i)=ϊ v'):qR P {s with lanes:=L,book:=b}:=by
 refine⟨h.org,h.nd,h.dis,h.few,λy m d=> ?_,λy m d i hi=> ?_,λy i H=> ?_,λy i v G=> ?_⟩
 ·by_cases e:y=x
  ·subst e;obtain⟨N,O,a3⟩:=U m d;exact⟨N,O,by rw[a3];exact N5⟩
  ·exact h.sub y m (by rw[<-J y e];exact d)
 ·by_cases e:y=x
  ·subst e;obtain⟨N,O,a3⟩:=U m d;rw[a3] at hi;simp at hi
  ·simp only at d ⊢;rw[I y i e];exact h.owd y m (by rw[<-J y e];exact d) i hi
 ·by_cases e:y=x
  ·subst e;exact ϧ H (Y i)
  ·simp only at H ⊢;rw[I y i e] at H;rw[J y e];exact h.src y i H
 ·by_cases e:y=x
  ·subst e;obtain⟨v',ab⟩:=aa i v G;exact h.bel y i v' ab
  ·simp only at G;rw[I y i e] at G;exact h.bel y i v G
def held_put {strs:List (Og×zu)} {i:Int}:xM (qx strs o t') i↔i∈thJ t'.buf.holds∨ ∃G t,G≠o/\qh strs G=ϊ t/\i∈thJ t.buf.holds:=by
 constructor
 ·rintro⟨G,t,d,H⟩;rw[qF] at d;by_cases e:G=o
  ·rw[ϓ e] at d;injection d with e1
   subst e1;exact ϑ H
  ·rw[Ϗ e] at d;exact ϕ ⟨G,t,e,d,H⟩
 ·rintro(h | ⟨G,t,e,d,H⟩)
  ·exact⟨o,t',by rw[qF,ϓ rfl],h⟩
  ·exact⟨G,t,by rw[qF,Ϗ e];exact d,H⟩
def qR.shrink (h:qR P s) (I:qh s.strs o=ϊ t) (E:List Int) (N:(thJ t'.buf.holds++E).Perm (thJ t.buf.holds)):
  qR (λx i=>P x i∨i∈E) {s with strs:=qx s.strs o t'}/\(∀i∈E,¬xM (qx s.strs o t') i)/\ ∀i,xM (qx s.strs o t') i->xM s.strs i:=by
 have ak:=N.nodup_iff.2 (h.nd o t I);have U:=G8.1 ak;have ab: ∀i,xM (qx s.strs o t') i->xM s.strs i:=λi hi=>by
  rcases held_put.1 hi with J | ⟨G,u,_,O,h3⟩
  ·exact⟨o,t,I,N.subset (Ω _ J)⟩
  ·exact⟨G,u,O,h3⟩
 have am: ∀i,xM s.strs i->xM (qx s.strs o t') i∨i∈E:=λi ⟨G,u,J,O⟩=>by
  by_cases e:G=o
  ·subst e;rw[I] at J;injection J with e1
   subst e1;rcases Ϫ.1 (N.symm.subset O) with h3 | h3
   ·exact ϑ (held_put.2 (ϑ h3))
   ·exact ϕ h3
  ·exact ϑ (held_put.2 (ϕ ⟨G,u,e,J,O⟩))
 refine⟨⟨λG u d=> ?_,λG u d=> ?_,λan aq o2 ar Y aa i ah ai=> ?_,λG u d i hi=> ?_,h.sub,λx l aj i hi=> ?_,λx i al=> ?_,h.bel⟩,λi hi ag=> ?_,ab⟩
 ·rw[qF] at d;split at d
  ·rename_i e;rw[e];exact h.org o t I
  ·exact h.org G u d
 ·rw[qF] at d;split at d
  ·injection d with e
   subst e;exact U.1
  ·exact h.nd G u d
 ·simp only[qF] at Y aa;have q: ∀{G:Og} {u:zu},(if G=o then ϊ t' else qh s.strs G)=ϊ u->i∈thJ u.buf.holds-> ∃v,qh s.strs G=ϊ v/\i∈thJ v.buf.holds:=by
   intro G u d hi;split at d
   ·rename_i e;injection d with e2
    subst e2;exact⟨t,by rw[e];exact I,N.subset (Ω _ hi)⟩
   ·exact⟨u,d,hi⟩
  obtain⟨ao,ac,ae⟩:=q Y ah;obtain⟨ap,ad,af⟩:=q aa ai;exact h.dis an ao o2 ap ac ad i ae af
 ·simp only at d;rw[qF] at d;split at d
  ·injection d with e
   subst e;exact h.few o t I i (N.subset (Ω _ hi))
  ·exact h.few G u d i hi
 ·obtain⟨a,b,c⟩:=h.owd x l aj i hi;refine⟨a,λH=>b (ab i H),λH=>H.elim c λH=>b ⟨o,t,I,N.subset (ϐ _ H)⟩⟩
 ·obtain⟨l,a,b,c,H⟩:=h.src x i al;refine⟨l,a,b,c, ?_⟩;rcases H with H | H | H
  ·exact ϑ H
  ·rcases am i H with e | e
   ·exact ϕ (ϑ e)
   ·exact ϕ (ϕ (ϕ e))
  ·exact ϕ (ϕ (ϑ H))
 ·rcases held_put.1 ag with J | ⟨G,u,e,O,h3⟩
  ·exact U.2.2 i J i hi rfl
  ·exact e (h.dis G u o t O I i h3 (N.subset (ϐ _ hi)))
def qR.keep (h:qR P s) (d:qh s.strs o=ϊ t) (e:t'.buf.holds=t.buf.holds):qR P {s with strs:=qx s.strs o t'}:=
 (h.shrink (t':=t') d [] (by rw[e,Θ])).1.iff λx i=>by simp
def qR.strNew (h:qR P s) (ac:o∈orgs) (ab:qh s.strs o=ϋ) (e:t'.buf.holds=[]):qR P {s with strs:=qx s.strs o t'}:=by
 have k: ∀i,xM (qx s.strs o t') i↔xM s.strs i:=λi=>by
  rw[held_put,e];constructor
  ·rintro(Y | ⟨G,u,_,H,I⟩)
   ·simp[thJ] at Y
   ·exact⟨G,u,H,I⟩
  ·rintro⟨G,u,H,I⟩;exact ϕ ⟨G,u,(λc=>by rw[c,ab] at H;cases H),H,I⟩
 refine⟨λG u d=> ?_,λG u d=> ?_,λae af o2 ag O U i J N=> ?_,λG u d i hi=> ?_,h.sub,λx l aa i hi=> ?_,λx i ad=> ?_,h.bel⟩
 ·rw[qF] at d;split at d
  ·rename_i e;rw[e];exact ac
  ·exact h.org G u d
 ·rw[qF] at d;split at d
  ·injection d with e2
   subst e2;rw[e];exact N5
  ·exact h.nd G u d
 ·simp only[qF] at O U;have q: ∀{G:Og} {u:zu},(if G=o then ϊ t' else qh s.strs G)=ϊ u->i∈thJ u.buf.holds->qh s.strs G=ϊ u:=by
   intro G u d hi;split at d
   ·injection d with e2
    subst e2;rw[e] at hi;simp[thJ] at hi
   ·exact d
  exact h.dis ae af o2 ag (q O J) (q U N) i J N
 ·simp only at d;rw[qF] at d;split at d
  ·injection d with e2
   subst e2;rw[e] at hi;simp[thJ] at hi
  ·exact h.few G u d i hi
 ·rw[k];exact h.owd x l aa i hi
 ·simp only[k];exact h.src x i ad
def qR.grow (h:qR P s) (N:qh s.strs o=ϊ t) (I:Int) (O:(thJ t'.buf.holds).Perm (I::thJ t.buf.holds)) (hi:0<=I/\I<(s.pks.length:Int)) (ad: ¬xM s.strs I) (ar: ∀x l,qh s.lanes x=ϊ l->I∉xI l):
  qR (λx i=>P x i/\i≠I) {s with strs:=qx s.strs o t'}:=by
 have av:(thJ t'.buf.holds).Nodup:=by
  rw[O.nodup_iff,E0];exact⟨λc=>ad ⟨o,t,N,c⟩,h.nd o t N⟩
 have ae: ∀i,xM (qx s.strs o t') i↔i=I∨xM s.strs i:=λi=>by
  rw[held_put];constructor
  ·rintro(ac | ⟨G,u,_,U,Y⟩)
   ·rcases Ϟ.1 (O.subset ac) with h4 | h4
    ·exact ϑ h4
    ·exact ϕ ⟨o,t,N,h4⟩
   ·exact ϕ ⟨G,u,U,Y⟩
  ·rintro(ac | ⟨G,u,U,Y⟩)
   ·exact ϑ (O.symm.subset (by rw[ac];exact ϟ))
   ·by_cases e:G=o
    ·subst e;rw[N] at U;injection U with aa
     subst aa;exact ϑ (O.symm.subset (ϛ _ Y))
    ·exact ϕ ⟨G,u,e,U,Y⟩
 refine⟨λG u d=> ?_,λG u d=> ?_,λam ax o2 ay ak al i au J=> ?_,λG u d i J=> ?_,h.sub,λx l aj i J=> ?_,λx i aw=> ?_,h.bel⟩
 ·rw[qF] at d;split at d
  ·rename_i e;rw[e];exact h.org o t N
  ·exact h.org G u d
 ·rw[qF] at d;split at d
  ·injection d with e
   subst e;exact av
  ·exact h.nd G u d
 ·simp only[qF] at ak al;have q: ∀{G:Og} {u:zu},(if G=o then ϊ t' else qh s.strs G)=ϊ u->i∈thJ u.buf.holds->(i=I/\G=o)∨ ∃v,qh s.strs G=ϊ v/\i∈thJ v.buf.holds:=by
   intro G u d hi;split at d
   ·rename_i e;injection d with ab
    subst ab;rcases Ϟ.1 (O.subset hi) with h4 | h4
    ·exact ϑ ⟨h4,e⟩
    ·exact ϕ ⟨t,by rw[e];exact N,h4⟩
   ·exact ϕ ⟨u,d,hi⟩
  rcases q ak au with ⟨aa,ab⟩ | ⟨an,af,ah⟩<;>rcases q al J with ⟨ap,aq⟩ | ⟨ao,ag,ai⟩
  ·rw[ab,aq]
  ·exact ϧ ⟨o2,ao,ag,by rw[<-aa];exact ai⟩ ad
  ·exact ϧ ⟨am,an,af,by rw[<-ap];exact ah⟩ ad
  ·exact h.dis am an o2 ao af ag i ah ai
 ·simp only at d;rw[qF] at d;split at d
  ·injection d with e
   subst e;rcases Ϟ.1 (O.subset J) with h4 | h4
   ·rw[h4];exact hi
   ·exact h.few o t N i h4
  ·exact h.few G u d i J
 ·obtain⟨a,b,c⟩:=h.owd x l aj i J;refine⟨a,λH=> ?_,λH=>c H.1⟩;rcases(ae i).1 H with e | e
  ·exact ar x l aj (by rw[<-e];exact J)
  ·exact b e
 ·obtain⟨l,a,b,c,H⟩:=h.src x i aw;refine⟨l,a,b,c, ?_⟩;rcases H with H | H | H
  ·exact ϑ H
  ·exact ϕ (ϑ ((ae i).2 (ϕ H)))
  ·by_cases e:i=I
   ·exact ϕ (ϑ ((ae i).2 (ϑ e)))
   ·exact ϕ (ϕ ⟨H,e⟩)
def qR.settled (h:qR P s) (L:List Int) (H f:Int) (N:1<=f/\f<=8) (U: ∀x,qh s.book (x,H)=ϊ 0->x∈L) (Y: ∀x l,qh s.lanes x=ϊ l->H∉xI l):
  qR (λx i=>P x i/\i≠H) {s with book:=xG s.book L H f}:=by
 have aa:f≠0:=by omega
 refine⟨h.org,h.nd,h.dis,h.few,h.sub,λx l O i hi=> ?_,λx i G=> ?_,λx i v I=> ?_⟩
 ·obtain⟨a,b,c⟩:=h.owd x l O i hi;simp only;rw[yv H f N,Ϗ (λe=>Y x l O (by rw[<-e.1.1];exact hi))];exact⟨a,b,λd=>c d.1⟩
 ·simp only at G ⊢;rw[yv H f N] at G;split at G
  ·injection G with e
   exact ϧ e aa
  ·rename_i J;obtain⟨l,a,b,c,d⟩:=h.src x i G;refine⟨l,a,b,c, ?_⟩;rcases d with d | d | d
   ·exact ϑ d
   ·exact ϕ (ϑ d)
   ·exact ϕ (ϕ ⟨d,λe=>J ⟨⟨e,U x (by rw[<-e];exact G)⟩,G⟩⟩)
 ·simp only at I;rw[yv H f N] at I;split at I
  ·rename_i J;exact h.bel x i 0 J.2
  ·exact h.bel x i v I
def Kt (l:LnS):(xI (jf l).1++(if (jf l).2.2.2&& !decide ((jf l).2.2.1=0) then [(jf l).2.1] else [])).Perm (xI l)/\(jf l).1.room=l.room/\(jf l).1.gone=l.gone/\(jf l).1.wanted=l.wanted/\(jf l).2.2.1<=8/\0<=(jf l).2.2.1:=by
 rcases XJ l with ⟨_,e⟩ | ⟨_,x,A,d,_,e⟩
 ·rw[e];simp
 ·rw[e];refine⟨?_,rfl,rfl,rfl, ?_⟩
  ·unfold xI;rw[d];by_cases ht:(xJ l.cur l.tgt x.layer x.key).2.1=0
   ·simp only[ht,C1,decide_true,Bool.not_true,M4,Ξ,D4,Θ,ϩ,Ϛ,C6];rw[D3];intro a;simp only[F3,J4,K3];omega
   ·simp only[ht,D4,decide_false,Bool.not_false,Bool.and_true,C1,Ϛ];rw[D3];intro a;simp only[F3,J4,K3];omega
  ·unfold xJ
   repeat' split
   all_goals (simp)
def YV (l:LnS) (h:1<=l.room):(xI (qY l).1++(if (qY l).2.2.2&&(qY l).2.2.1 then [(qY l).2.1] else [])).Perm (xI l)/\(qY l).1.room=l.room/\(qY l).1.gone=l.gone/\(qY l).1.wanted=l.wanted:=by
 rcases qb4 l with ⟨_,e⟩ | ⟨x,f,B,d,e⟩
 ·rw[e];simp
 ·rw[e];refine⟨?_,rfl,rfl,rfl⟩;unfold xI;rw[d];by_cases hc:l.C.length<l.room
  ·simp only[hc,C1,not_true,decide_false,M4,Ξ,D4,Θ,ϩ,Ϛ,C6];rw[D3];intro a;simp only[F3,J4,K3];omega
  ·cases hC:l.C with
   | nil=>rw[hC] at hc;simp at hc;omega
   | cons o C=>
    rw[hC] at hc;simp only[hc,D4,not_false_eq_true,decide_true,Bool.and_true,C1,ϩ,Ϛ,C6,V1,List.head?_cons,D9,ϰ];rw[D3];intro a;simp only[F3,J4,K3];omega
def Bi (l:LnS) (x:ItS) (h:1<=l.room) (d:l.gone=ύ) (G:l.wanted=ό) (H:jJ x.pk=ό) (I:jj x.layer=ό):(xI (xp l x).1++(if (xp l x).2.2.1 then [(xp l x).2.1] else [])).Perm (x.id::xI l)/\(xp l x).1.room=l.room/\(xp l x).1.gone=l.gone/\(xp l x).1.wanted=l.wanted:=by
 have e:xp l x=((yX l x).1,(yX l x).2.1,(yX l x).2.2,0):=by unfold xp;rw[d,G,H,I];simp
 rw[e];unfold yX;by_cases hc:l.A.length<l.room
 ·rw[ϓ hc];refine⟨?_,rfl,rfl,rfl⟩;unfold xI;simp only[Ξ,D4,Θ,ϩ,Ϛ,C6];rw[D3];intro a;simp only[F3,J4,K3];omega
 ·rw[Ϗ hc];refine⟨?_,rfl,rfl,rfl⟩;unfold xI;cases hA:l.A with
  | nil=>rw[hA] at hc;simp at hc;omega
  | cons o A=>
   simp only[C1,ϩ,Ϛ,C6,V1,List.head?_cons,D9,ϰ];rw[D3];intro a;simp only[F3,J4,K3];omega
def UV (l:LnS) (n:Int) (d:n=1∨n=2∨n=3):(xI (vh l n)++KG l n).Perm (xI l):=by
 unfold xI vh KG;rcases d with rfl | rfl | rfl<;>simp only[C1,(by decide: ¬(2:Int)=1),(by decide: ¬(3:Int)=1),(by decide: ¬(3:Int)=2),(by decide: ¬(1:Int)=2),(by decide: ¬(1:Int)=3),(by decide: ¬(2:Int)=3),D4,C6,I0,Θ]
 ·rw[D3];intro a;simp only[F3];omega
 ·rw[D3];intro a;simp only[F3];omega
 ·exact List.Perm.refl _
def qR.fin (h:qR P s) (J: ∀y i,P y i->y∈subIds->False):OwO s:=
  ⟨h.org,h.nd,h.dis,h.few,h.sub,λx l N i hi=>by obtain⟨G,H,_⟩:=h.owd x l N i hi;exact⟨G,H,λc=>c⟩,
   λx i hi=>by
    obtain⟨l,G,H,I,d⟩:=h.src x i hi
    refine⟨l,G,H,I, ?_⟩
    rcases d with d | d | d
    · exact ϑ d
    · exact ϕ (ϑ d)
    · exact(J x i d (h.sub x l G).1).elim,h.bel⟩
def qR.choose (h:qR P s) (x:Int):qR P (s.choose x):=by
 unfold RmS.choose;cases hl:qh s.lanes x with
 | none=>exact h
 | some l=>
  obtain⟨d,H,G,I,N,J⟩:=Kt l;simp only;cases hc:(jf l).2.2.2&& !decide ((jf l).2.2.1=0) with
  | false=>
   rw[hc] at d;simp only[Ξ,D4] at d ⊢;exact h.lane hl [] 1 ζ d H G (λe=>by rw[I];exact e)
  | true=>
   rw[hc] at d;simp only[C1] at d ⊢;have:(jf l).2.2.1≠0:=by
    intro e;rw[e] at hc;simp at hc
   exact h.lane hl [(jf l).2.1] (jf l).2.2.1 τ d H G (λe=>by rw[I];exact e)
def qR.rewrite (h:qR P s) (x:Int):qR P (s.rewrite x):=by
 unfold RmS.rewrite;cases hl:qh s.lanes x with
 | none=>exact h
 | some l=>
  obtain⟨d,H,G,I⟩:=YV l (h.sub x l hl).2.1;simp only;cases hc:(qY l).2.2.2&&(qY l).2.2.1 with
  | false=>
   rw[hc] at d;simp only[Ξ,D4] at d ⊢;exact h.lane hl [] 1 ζ d H G (λe=>by rw[I];exact e)
  | true=>
   rw[hc] at d;simp only[C1] at d ⊢;exact h.lane hl [(qY l).2.1] 6 ζ d H G (λe=>by rw[I];exact e)
def qR.drainL (h:qR P s) (w:Og):qR P (s.drainL w):=by
 unfold RmS.drainL;cases hl:qh s.lanes w.2 with
 | none=>exact h
 | some l=>
  simp only;refine h.lane hl (KG l (xB w.1)) 8 ζ (UV l _ ?_) rfl rfl (λe=>e);unfold xB
  repeat' split
  all_goals simp
def VR (m:Bk) (x i:Int) {f:Int} (d:f≠0):qh (vM m x f) (x,i)≠ϊ 0:=by
 rw[QC];cases qh m (x,i) with
 | none=>simp
 | some v=>
  simp only[D9,true_and];split
  ·intro e;injection e with e;exact d e
  ·rename_i G;intro e;injection e with e;exact G e
def XH (m:Bk) {y:Int} (i f:Int) (h:y≠x):qh (vM m x f) (y,i)=qh m (y,i):=by
 rw[QC];cases qh m (y,i) with
 | none=>rfl
 | some v=>simp[h]
def VQ (m:Bk) (x i f v:Int) (h:qh (vM m x f) (x,i)=ϊ v): ∃v',qh m (x,i)=ϊ v':=by
 rw[QC] at h;cases hm:qh m (x,i) with
 | none=>rw[hm] at h;cases h
 | some v'=>exact⟨v',rfl⟩
def qR.write (h:qR P s) (x:Int) (acc:Bool):qR P (s.write x acc):=by
 unfold RmS.write;cases hl:qh s.lanes x with
 | none=>exact h
 | some l=>
  have ac:l.gone=ό->xI l=[]:=λd=>by
   cases hi:xI l with
   | nil=>rfl
   | cons i L=>
    obtain⟨ad,_⟩:=h.owd x l hl i (by rw[hi];exact ϟ);obtain⟨l2,U,Y,_⟩:=h.src x i ad;rw[hl] at U;injection U with e
    subst e;rw[d] at Y;cases Y
  simp only;cases d:(qX l acc).1.gone with
  | true=>
   have hi:(qX l acc).1.room=l.room/\xI (qX l acc).1=[]:=by
    rcases uV l acc with ⟨_,e⟩ | ⟨o,C,N,⟨G,e⟩ | ⟨_,_,_,e⟩⟩
    ·rw[e] at d ⊢;exact⟨rfl,ac d⟩
    ·rw[e] at d;simp only at d;exfalso;have H:l.gone=ό:=by
      cases H:l.gone with
      | true=>rfl
      | false=>
       unfold V2 at G d;rw[Ϗ (by rw[H];decide)] at G d;cases acc with
       | true=>simp at d
       | false=>
        simp only[Ξ,D4] at G d;rw[G] at d;cases d
     have:=ac H;unfold xI at this;rw[N] at this;simp at this
    ·rw[e];exact⟨rfl,rfl⟩
   simp only[C1];obtain⟨b,G,aa⟩: ∃b,(if (qX l acc).2.2.2&&decide ((qX l acc).2.2.1=1) then jp s.book x (qX l acc).2.1 (qX l acc).2.2.1 else s.book)=b/\(∀y i,y≠x->qh b (y,i)=qh s.book (y,i))/\ ∀i v,qh b (x,i)=ϊ v-> ∃v',qh s.book (x,i)=ϊ v':=by
    refine⟨_,rfl, ?_⟩;split
    ·rename_i O;rw[C2] at O;have:(qX l acc).2.2.1=1:=Ϧ O.2;rw[this];refine⟨λy i J=> ?_,λi v I=> ?_⟩
     ·rw[ye _ _ _ _ ζ,Ϗ (λc=>J (by have:=Γ Prod.fst c.1;exact this))]
     ·rw[ye _ _ _ _ ζ] at I;split at I
      ·rename_i O;exact⟨0,O.2⟩
      ·exact⟨v,I⟩
    ·exact⟨λy i J=>rfl,λi v I=>⟨v,I⟩⟩
   rw[G];refine(h.endL x (L:=qx s.lanes x (qX l acc).1) (b:=vM b x 7) (λy J=>by rw[qF,Ϗ J]) (λm ab=> ?_) (λy i J=> ?_) (λi=>VR b x i ζ) (λi v I=> ?_)).same rfl rfl rfl rfl
   ·rw[qF,ϓ rfl] at ab;injection ab with e
    subst e;exact⟨(h.sub x l hl).1,by rw[hi.1];exact(h.sub x l hl).2.1,hi.2⟩
   ·rw[XH b i 7 J];exact aa.1 y i J
   ·obtain⟨v',ae⟩:=VQ b x i 7 v I;exact aa.2 i v' ae
  | false=>
   simp only[Ξ,D4];rcases uV l acc with ⟨_,e⟩ | ⟨o,C,N,⟨G,e⟩ | ⟨_,_,G,e⟩⟩
   ·rw[e] at d ⊢;simp only[J1,Ξ,D4];exact(h.lane hl [] 1 ζ (by rw[Θ]) rfl rfl (λe=>e)).same rfl rfl rfl rfl
   ·rw[e] at d ⊢;simp only at d;have H:l.gone=ύ:=by
     cases H:l.gone with
     | false=>rfl
     | true=>
      unfold V2 at d;rw[ϓ H] at d;cases d
    cases acc with
    | true=>
     simp only[C1,I9,decide_true];refine(h.lane (l':={l with C:=C,W:=l.W++[o],row:=(V2 l ό).1,gone:=(V2 l ό).2.1}) hl [o.1] 1 ζ ?_ rfl (by rw[H];exact d) (λe=>e)).same rfl rfl rfl rfl;unfold xI;rw[N];rw[D3];intro a;simp only[F3,Ϛ,J4,K3];omega
    | false=>
     simp only[Ξ,D4,(by decide: ¬(0:Int)=1),decide_false,M4];refine(h.lane (l':={l with C:=o::C,row:=(V2 l ύ).1,gone:=(V2 l ύ).2.1}) hl [] 1 ζ ?_ rfl (by rw[H];exact d) (λe=>e)).same rfl rfl rfl rfl;unfold xI;rw[N,Θ]
   ·rw[e] at d;simp only at d;rw[G] at d;cases d
def GY (d:ItS) (x:Int):(s.put1 d x).strs=s.strs/\(s.put1 d x).pks=s.pks:=by
 unfold RmS.put1;split
 ·cases qh s.lanes x with
  | none=>exact⟨rfl,rfl⟩
  | some l=>simp only;split<;>exact⟨rfl,rfl⟩
 ·exact⟨rfl,rfl⟩
def qR.put1 (h:qR P s) (d:ItS) (x:Int) (Y:P x d.id) (ab: ¬xM s.strs d.id) (ac:jJ d.pk=ό) (ad:jj d.layer=ό):
  qR (λy i=>P y i/\ ¬(y=x/\i=d.id)) (s.put1 d x):=by
 unfold RmS.put1;by_cases ho:qh s.book (x,d.id)=ϊ 0
 ·rw[ϓ ho];obtain⟨l,I,aa,ae,_⟩:=h.src x d.id ho;rw[I];simp only;obtain⟨H,N,O,U⟩:=Bi l d (h.sub x l I).2.1 aa ae ac ad
  have key:=λE f hf (hq:(xI (xp l d).1++E).Perm ([d.id]++xI l))=>(h.laneN I [d.id] E f hf hq (λi hi=>by
   rw[A8] at hi;rw[hi]
   exact⟨Y,ab,ho⟩) η N O (λe=>by rw[U];exact e)).iff (P':=λy i=>P y i/\ ¬(y=x/\i=d.id)) (λy i=>by simp)
  cases hd:(xp l d).2.2.1 with
  | true=>
   rw[hd] at H;simp only[C1] at H ⊢;exact key [(xp l d).2.1] 6 ζ H
  | false=>
   rw[hd] at H;simp only[Ξ,D4] at H ⊢;exact key [] 6 ζ H
 ·rw[Ϗ ho]
  exact⟨h.org,h.nd,h.dis,h.few,h.sub,λy l I i hi=>by obtain⟨a,b,c⟩:=h.owd y l I i hi;exact⟨a,b,λG=>c G.1⟩,λy i J=>by
   obtain⟨l,a,b,c,G⟩:=h.src y i J;refine⟨l,a,b,c, ?_⟩;rcases G with G | G | G
   ·exact ϑ G
   ·exact ϕ (ϑ G)
   ·exact ϕ (ϕ ⟨G,λe=>ho (by rw[<-e.1,<-e.2];exact J)⟩),h.bel⟩
def qR.puts (G:ItS) (H:jJ G.pk=ό) (I:jj G.layer=ό): ∀(L:List Int) {P:Int->Int->Prop} {s:RmS},qR P s->L.Nodup->(∀x∈L,P x G.id)-> ¬xM s.strs G.id->
  qR (λy i=>P y i/\ ¬(y∈L/\i=G.id)) (L.foldl (RmS.put1 G) s)
 | [],P,s,h,_,_,_=>h.iff λy i=>by simp
 | x::L,P,s,h,hn,hP,hh=>by
  rw[E0] at hn;rw[A6];have N:=h.put1 G x (hP x ϟ) hh H I;refine(qR.puts G H I L N hn.2 (λy J=>⟨hP y (ϛ _ J),λe=>hn.1 (by rw[<-e.1];exact J)⟩) (by rw[(GY G x).1];exact hh)).iff λy i=> ?_
  rw[Ϟ];constructor
  ·rintro⟨⟨a,b⟩,c⟩;exact⟨a,λd=>d.1.elim (λe=>b ⟨e,d.2⟩) (λe=>c ⟨e,d.2⟩)⟩
  ·rintro⟨a,b⟩;exact⟨⟨a,λd=>b ⟨ϑ d.1,d.2⟩⟩,λd=>b ⟨ϕ d.1,d.2⟩⟩
def Bt (h:xa b d=ό):(thJ (yD b d).1.holds++[(yD b d).2.2.1]).Perm (thJ b.holds):=by
 unfold yD;cases hb:b.holds with
 | nil=>unfold xa at h;rw[hb] at h;cases h
 | cons x T=>
  simp only[h,C1];unfold xT;rw[hb];simp only[thJ,Ϛ];exact List.perm_append_singleton _ _
def XD (h:o∈orgs):jj o.2=ό:=by
 unfold orgs at h;simp only[Ϟ,Ϻ,or_false] at h;rcases h with rfl | rfl | rfl | rfl | rfl | rfl | rfl | rfl | rfl<;>rfl
def qR.order (h:OwO s) (U: ∀a∈s.pks,jJ a.pk=ό):OwO s.order:=by
 unfold RmS.order;cases d:s.ready with
 | none=>exact h
 | some o=>
  simp only;cases ht:qh s.strs o with
  | none=>exact h
  | some t=>
   simp only;have Y:xa t.buf s.clock=ό:=by
    have:=T4 d;unfold RmS.readyAt at this;rw[ht] at this;exact this
   have H:=Bt Y;obtain⟨I,J,aa⟩:=qR.shrink h (t':={t with buf:=(yD t.buf s.clock).1}) ht [(yD t.buf s.clock).2.2.1] H;have hi:=h.few o t ht _ (H.subset (ϐ _ ϟ));unfold RmS.orderAt;have O:jJ (s.item o (yD t.buf s.clock).2.2.1).pk=ό:=by
    refine U _ ?_;have G:(yD t.buf s.clock).2.2.1.toNat<s.pks.length:=by omega
    rw[ϒ,ϖ G];exact ϥ G
   refine(qR.puts (s.item o (yD t.buf s.clock).2.2.1) O (XD (h.org o t ht)) subIds I ζ (λx _=>ϕ ϟ) (J _ ϟ)).fin λy i N d=> ?_
   obtain⟨a,b⟩:=N;rcases a with a | a
   ·exact a
   ·rw[A8] at a;exact b ⟨d,a⟩
def qR.drain1s: ∀(L:List Int) {P:Int->Int->Prop} {s:RmS},qR P s->(∀i∈L,∀x l,qh s.lanes x=ϊ l->i∉xI l)->qR (λy i=>P y i/\i∉L) (L.foldl RmS.drain1 s)
 | [],P,s,h,_=>h.iff λy i=>by simp
 | i0::L,P,s,h,hL=>by
  rw[A6]
  have G:qR (λx i=>P x i/\i≠i0) (s.drain1 i0):=h.settled subIds i0 8 ζ (λx H=>by
   obtain⟨l,a,_⟩:=h.src x i0 H
   exact(h.sub x l a).1) (hL i0 ϟ)
  refine(qR.drain1s L G (λi hi=>hL i (ϛ _ hi))).iff λy i=> ?_
  rw[Ϟ];constructor
  ·rintro⟨⟨a,b⟩,c⟩;exact⟨a,λd=>d.elim b c⟩
  ·rintro⟨a,b⟩;exact⟨⟨a,λd=>b (ϑ d)⟩,λd=>b (ϕ d)⟩
def XG: ∀(n:Nat) (b:Jb),b.holds.length<=n->(Qr n b).holds=[]:=by
 intro n
 induction n with
 | zero=>intro b h;unfold Qr;exact K4.1 τ
 | succ n ih=>
  intro b h;unfold Qr;refine ih _ ?_;unfold xT;cases hb:b.holds with
  | nil=>simp only[hb];simp
  | cons x T=>rw[hb] at h;simp only[Ϙ] at h ⊢;omega
def qR.drainO (h:OwO s) (o:Og):OwO (s.drainO o):=by
 unfold RmS.drainO;cases ht:qh s.strs o with
 | none=>exact h
 | some t=>
  simp only;have J:(vP t.buf).holds=[]:=XG _ _ (ϔ _);obtain⟨d,N,O⟩:=qR.shrink h (t':={t with buf:=vP t.buf}) ht (thJ t.buf.holds) (by simp only[J];exact List.Perm.refl _);refine(qR.drain1s (thJ t.buf.holds) d (λi hi x l I H=>(h.owd x l I i H).2.1 ⟨o,t,ht,hi⟩)).fin λy i G _=> ?_
  obtain⟨a,b⟩:=G;exact a.elim id b
def qR.drainOs: ∀(L:List Og) {s:RmS},OwO s->OwO (L.foldl RmS.drainO s)
 | [],_,h=>h
 | o::L,_,h=>qR.drainOs L (qR.drainO h o)
def EI (l:LnS):List Int:=l.W.map Prod.fst++(l.C.map Prod.fst++(l.B.map (λp=>p.1.id)++l.A.map (λx=>x.id)))
def Ra (l:LnS) (x:ItS):List.Sublist (EI (xp l x).1) (EI l++[x.id]):=by
 rcases Rc (s:=l) x with ⟨h,_⟩ | ⟨_,_,_,_,_,h,_⟩
 ·rw[h];exact R8 _ _
 ·rw[h];unfold EI;simp only[ϭ];refine List.Sublist.append (ϵ _) (List.Sublist.append (ϵ _) (List.Sublist.append (ϵ _) ?_));split
  ·rw[ϩ];exact ϵ _
  ·rw[ϩ];exact List.Sublist.append (List.Sublist.map _ (List.tail_sublist _)) (ϵ _)
def OL (l:LnS):List.Sublist (EI (jf l).1) (EI l):=by
 rcases XJ (s:=l) with ⟨_,h⟩ | ⟨_,x,A,d,_,h⟩
 ·rw[h];exact ϵ _
 ·rw[h];unfold EI;rw[d];refine List.Sublist.append (ϵ _) (List.Sublist.append (ϵ _) ?_);simp only;split
  ·rw[ϩ,ϭ];exact ϵ _
  ·exact List.Sublist.append (ϵ _) (List.sublist_cons_self _ _)
def Ow (l:LnS):List.Sublist (EI (qY l).1) (EI l):=by
 rcases qb4 (s:=l) with ⟨_,h⟩ | ⟨x,f,B,d,h⟩
 ·rw[h];exact ϵ _
 ·rw[h];unfold EI;rw[d];refine List.Sublist.append (ϵ _) ?_;simp only;have e: ∀C:List (Int×List Int),List.Sublist C l.C->List.Sublist ((C++[(x.id,pkB (kY l.rw x.pk f))]).map Prod.fst++(B.map (λp=>p.1.id)++l.A.map (λx=>x.id))) (l.C.map Prod.fst++(((x,f)::B).map (λp=>p.1.id)++l.A.map (λx=>x.id))):=λC G=>by
   rw[ϩ,ϭ];exact List.Sublist.append (List.Sublist.map _ G) (ϵ _)
  split
  ·exact e _ (ϵ _)
  ·exact e _ (List.tail_sublist _)
def Ot (l:LnS) (acc:Bool):List.Sublist (EI (qX l acc).1) (EI l):=by
 rcases uV (s:=l) acc with ⟨_,h⟩ | ⟨o,C,d,h⟩
 ·rw[h];exact ϵ _
 ·unfold EI;rw[d];rcases h with ⟨_,h⟩ | ⟨_,_,_,h⟩<;>rw[h]
  ·simp only;cases acc
   ·exact ϵ _
   ·simp
  ·simp only[C6,Θ];exact R8 _ _
def OV (l:LnS) (n:Int):List.Sublist (EI (vh l n)) (EI l):=by
 unfold EI vh;refine List.Sublist.append (ϵ _) (List.Sublist.append ?_ (List.Sublist.append ?_ ?_))<;>refine List.Sublist.map _ ?_<;>simp only<;>split<;>first | exact List.nil_sublist _ | exact ϵ _
def OJ (l:LnS) (n:Int):EI (jO l n).1=EI l:=by
 rcases NR (s:=l) n with h | ⟨_,h⟩<;>rw[h]
 rfl
def Yo {s:RdS} {n:Int} (G:0<=n) (h:(tkS s n).2=0):s.2=0/\n<=s.1.length/\((tkS s n).1.length:Int)=s.1.length-n/\((tkB s.1 n).length:Int)=n:=by
 obtain⟨l,e⟩:=s;unfold tkS tkE tkL at *;simp only at h ⊢;split at h
 ·cases h
 ·rename_i H;have d:n<=(l.length:Int):=by
   rcases Int.lt_or_le (l.length:Int) n with c | c
   ·exact ϧ ⟨c,h⟩ H
   ·exact c
  refine⟨h,d, ?_,(uM G d).2⟩;rw[Ϭ];omega
def Yw: ∀(n:Nat) {s:RdS},(j9 n s).2.2=0->s.2=0/\4* n<=s.1.length/\(j9 n s).2.1.length=s.1.length-4* n
 | 0,s,h=>⟨h,τ,by show s.1.length=_;omega⟩
 | n+1,s,h=>by
  obtain⟨d,H,a3,_⟩:=Yo (s:=(j9 n s).2) (n:=4) ζ h;obtain⟨G,I,J⟩:=Yw n d;refine⟨G,τ, ?_⟩;show (tkS (j9 n s).2 4).1.length=_;omega
def us: ∀(n:Nat) {s:RdS},Byt s.1->Byt (j9 n s).2.1/\ ∀x∈(j9 n s).1,U32 x
 | 0,s,h=>⟨h,λx d=>by cases d⟩
 | n+1,s,h=>by
  obtain⟨a,b⟩:=us n h;refine⟨a.drop _,λx d=> ?_⟩;rcases Ϫ.1 d with c | c
  ·exact b x c
  ·rw[A8] at c;have G:=JH (s:=(j9 n s).2) a 4 ζ;rw[c];exact⟨G.1,by have:=G.2;show num (tkB (j9 n s).2.1 ((4:Nat):Int))<=4294967295;omega⟩
def EA {f:Int} {s:RdS} (I:Byt s.1) (h:(vB f s).2=0):s.2=0/\(vB f s).1.length<=s.1.length/\Byt (vB f s).1:=by
 unfold vB at *;split at h
 ·rename_i d;exact ϧ h d
 ·rename_i d;rw[Ϗ d];have H:s.2=0:=Classical.not_not.1 d;split at h
  ·rename_i G;rw[ϓ G];split at h
   ·rename_i J;rw[ϓ J];refine⟨H, ?_⟩;simp only;unfold xL;split
    ·exact⟨ϫ _,xh⟩
    ·split
     ·exact⟨ϫ _,xh⟩
     ·exact⟨by rw[Ϥ];omega,I.take _⟩
   ·cases h
  ·rename_i G;rw[Ϗ G];exact⟨H,ϔ _,I⟩
def Wz {l:List Int} (h: ∀x∈l,U32 x) (i:Nat):U32 (l.getD i 0):=by
 rw[ϒ];cases hi:l[i]? with
 | none=>exact⟨ζ,ζ⟩
 | some x=>exact h x (List.mem_of_getElem? hi)
def Xc {b:List Int} (I:Byt b) (h:(jl b).2=0):uf (jl b).1/\uj (jl b).1/\jJ (jl b).1=ό/\0<=(jl b).1.sq/\(jl b).1.sq<=65535:=by
 rw[<-GP] at h ⊢;unfold Ry at h ⊢;split at h
 ·cases h
 ·rename_i ap;rw[Ϗ ap];split at h
  ·cases h
  ·rename_i al;rw[Ϗ al];split at h
   ·cases h
   ·rename_i ao;rw[Ϗ ao];have J:Byt (b.drop 12):=I.drop 12;have am:Byt (yj (fH b) (b.drop 12,0)).2.1:=by
     unfold yj Qj;split
     ·exact(((us _ J).1.drop _).drop _).drop _
     ·exact(us _ J).1
    have N:(vB (fH b) (yj (fH b) (b.drop 12,0)).2).2=0:=by
     unfold JJ at h;split at h
     ·assumption
     ·rename_i an;exact ϧ h an
    unfold JJ;rw[ϓ N];obtain⟨d,H,p2⟩:=EA am N;have ay:(fH b%16).toNat<=15:=by omega
    have ac:=JH (s:=s2H b) ((I.drop _).drop _) 2 ζ;have ad:=JH (s:=s3H b) (((I.drop _).drop _).drop _) 4 ζ;have ae:=JH (s:=s4H b) ((((I.drop _).drop _).drop _).drop _) 4 ζ;have G:U16 (num (tkB (s2H b).1 2)):=⟨ac.1,by have:=ac.2;show num (tkB (s2H b).1 ((2:Nat):Int))<=65535;omega⟩;have ag:U32 (num (tkB (s3H b).1 4)):=⟨ad.1,by have:=ad.2;show num (tkB (s3H b).1 ((4:Nat):Int))<=4294967295;omega⟩;have af:U32 (num (tkB (s4H b).1 4)):=⟨ae.1,by have:=ae.2;show num (tkB (s4H b).1 ((4:Nat):Int))<=4294967295;omega⟩;have ax:(b.drop 12).length=b.length-12:=Ϭ;unfold mkH;by_cases hx:fH b/16%2=1
    ·have e:yj (fH b) (b.drop 12,0)=(((j9 (fH b%16).toNat (b.drop 12,0)).1,(Qj (j9 (fH b%16).toNat (b.drop 12,0)).2).1.1,(Qj (j9 (fH b%16).toNat (b.drop 12,0)).2).1.2),(Qj (j9 (fH b%16).toNat (b.drop 12,0)).2).2):=by
      unfold yj;rw[ϓ hx]
     rw[e] at d H p2 N ⊢;obtain⟨O,ab⟩:=us (fH b%16).toNat (s:=(b.drop 12,0)) J;have aq:=gN (fH b%16).toNat (b.drop 12,0);have aa:=λh=>Yw (fH b%16).toNat (s:=(b.drop 12,0)) h
     generalize j9 (fH b%16).toNat (b.drop 12,0)=r at *;have ah:=JH (s:=r.2) O 2 ζ;have ar:=JH (s:=tkS r.2 2) (O.drop _) 2 ζ;unfold Qj at d H p2 ⊢;simp only at d H p2 ⊢;obtain⟨ai,au,a3,a4⟩:=Yo (by have:=ar.1;show 0<=4* num (tkB (tkS r.2 2).1 ((2:Nat):Int));omega) d;obtain⟨aj,av,aw,_⟩:=Yo ζ ai;obtain⟨c1,c2,c3,_⟩:=Yo ζ aj;obtain⟨ak,U,Y⟩:=aa c1;simp only at U Y;refine⟨⟨by simp only;omega,G,ag,af,Wz ab,⟨ah.1,by have:=ah.2;show num (tkB r.2.1 ((2:Nat):Int))<=65535;omega⟩,jL ((O.drop _).drop _) _,p2⟩,⟨by simp only;omega,by simp only;omega,by simp only;omega⟩, ?_,G.1,G.2⟩;rw[yq];refine⟨by simp only;omega,by simp only;omega,λc=> ?_,by simp only;omega, ?_⟩
     ·simp only[decide_eq_false_iff_not] at c;exact ϧ hx c
     ·unfold ww;simp only[hx,decide_true,C1];omega
    ·have e:yj (fH b) (b.drop 12,0)=(((j9 (fH b%16).toNat (b.drop 12,0)).1,0,[]),(j9 (fH b%16).toNat (b.drop 12,0)).2):=by
      unfold yj;rw[Ϗ hx]
     rw[e] at d H p2 N ⊢;obtain⟨O,ab⟩:=us (fH b%16).toNat (s:=(b.drop 12,0)) J;have aq:=gN (fH b%16).toNat (b.drop 12,0);have aa:=λh=>Yw (fH b%16).toNat (s:=(b.drop 12,0)) h
     generalize j9 (fH b%16).toNat (b.drop 12,0)=r at *;simp only at d H p2 ⊢;obtain⟨ak,U,Y⟩:=aa d;simp only at U Y;refine⟨⟨by simp only;omega,G,ag,af,Wz ab,(⟨ζ,ζ⟩:U16 0),xh,p2⟩,⟨by simp only;omega,η,by simp only;omega⟩, ?_,G.1,G.2⟩;rw[yq];refine⟨by simp only;omega,by simp only;omega,λc=>⟨rfl,rfl⟩,η, ?_⟩;unfold ww;simp only[hx,decide_false,Ξ,D4];omega
def ZM (id:Int) (G:0<=id) (k:Int×Int): ∀(L:List Int) (b:Bk),(∀x∈L,0<=x/\x<6)->(∀x,qh b (x,id)=ϋ∨qh b (x,id)=ϊ 0)->qh (Ji b L id) k=if k.2=id/\k.1∈L then ϊ 0 else qh b k
 | [],b,_,_=>by simp[Ji]
 | x::L,b,hL,hb=>by
  have d: ∀k,qh (vT b (x,id)).1 k=if k=(x,id) then ϊ 0 else qh b k:=by
   intro k;unfold vT;rw[ϓ ⟨(hL x ϟ).1,(hL x ϟ).2,G⟩];rcases hb x with h | h
   ·rw[h];simp only[Option.isSome_none,Ξ,D4];rw[qF]
   ·rw[h];simp only[Option.isSome_some,C1];split
    ·rename_i e;rw[e,h]
    ·rfl
  have H:=ZM id G k L (vT b (x,id)).1 (λy J=>hL y (ϛ _ J)) (λy=>by
   rw[d];split
   ·exact ϕ rfl
   ·exact hb y)
  unfold Ji at H ⊢;rw[A6,H,d];obtain⟨I,N⟩:=k;by_cases e:N=id<;>by_cases e2:I=x<;>by_cases e3:I∈L<;>simp[e,e2,e3]
  all_goals (simp_all)
def Pa (b:Jb) (n d x:Int):((jP b n d x).2=0->(thJ (jP b n d x).1.holds).Perm (x::thJ b.holds))/\((jP b n d x).2≠0->(jP b n d x).1=b):=by
 unfold jP;split
 ·exact⟨λe=>by simp at e,λ_=>rfl⟩
 ·split
  ·exact⟨λe=>by simp at e,λ_=>rfl⟩
  ·split
   ·exact⟨λe=>by simp at e,λ_=>rfl⟩
   ·refine⟨λ_=> ?_,λe=>ϧ rfl e⟩;simp only;unfold ue thJ;rw[ϩ,Ϛ];refine(List.perm_middle).trans (List.Perm.cons _ ?_);rw[<-ϩ,A7]
def Pb (b:Jb) (n d x:Int):(yY (jP b n d x).2=0↔(jP b n d x).2=0)/\0<=yY (jP b n d x).2/\yY (jP b n d x).2<=8:=by
 unfold jP
 repeat' split
 all_goals (simp[yY])
def DU (s:RmS):Prop:= ∀x sb,qh s.tab.u x=ϊ sb->sb.2.1=ό-> ∃l,qh s.lanes x=ϊ l/\l.gone=ύ/\l.wanted=ό
def mem_prR {d:Sb->Bool} {u:List (Int×Sb)}:x∈prR d u↔x∈subIds/\ ∃sb,qh u x=ϊ sb/\d sb=ό:=by
 unfold prR;rw[E8];refine and_congr Iff.rfl ?_;cases qh u x with
 | none=>simp
 | some sb=>simp
def subIds_iff:x∈subIds↔0<=x/\x<6:=by
 unfold subIds;simp only[Ϟ,Ϻ,or_false];omega
def qR.accept (h:OwO s) (ai:DU s) (o:Og) (p:Pk):OwO (s.accept o p):=by
 unfold RmS.accept;cases ht:qh s.strs o with
 | none=>exact h
 | some t=>
  simp only;have ag: ∀x,qh s.book (x,(s.pks.length:Int))=ϋ:=λx=>by
   cases O:qh s.book (x,(s.pks.length:Int)) with
   | none=>rfl
   | some v=>have:=(h.bel x _ v O).2;omega
  have ah: ∀x∈prR (j8 o.1) s.tab.u,0<=x/\x<6:=λx d=>subIds_iff.1 (mem_prR.1 d).1
  have J:=λk=>ZM (s.pks.length:Int) τ k _ s.book ah (λx=>ϑ (ag x))
  have ac:qR (λ_ i=>i=(s.pks.length:Int)) {s with pks:=s.pks++[⟨o,yV t p.sq,p⟩],book:=Ji s.book (prR (j8 o.1) s.tab.u) s.pks.length}:=by
   refine⟨h.org,h.nd,h.dis,λaa u ak i hi=> ?_,h.sub,λx l U i hi=> ?_,λx i d=> ?_,λx i v N=> ?_⟩
   ·have:=h.few aa u ak i hi;simp only[ώ,Ϙ,Ϣ];omega
   ·obtain⟨a,b,_⟩:=h.owd x l U i hi;have ar:=(h.bel x i 0 a).2;refine⟨?_,b,λe=>by omega⟩;simp only;rw[J,Ϗ (λc=>by have:=c.1;simp only at this;omega)];exact a
   ·simp only at d ⊢;rw[J] at d;split at d
    ·rename_i H;obtain⟨ae,af⟩:=H;simp only at ae af;obtain⟨ao,al,Y⟩:=(mem_prR.1 af).2;unfold j8 at Y;rw[C2] at Y;obtain⟨l,a,b,c⟩:=ai x ao al Y.1;exact⟨l,a,b,c,ϕ (ϕ ae)⟩
    ·obtain⟨l,a,b,c,G⟩:=h.src x i d;exact⟨l,a,b,c,G.elim ϑ λG=>G.elim (λG=>ϕ (ϑ G)) False.elim⟩
   ·simp only at N ⊢;rw[J] at N;simp only[ώ,Ϙ,Ϣ];split at N
    ·rename_i H;have:=H.1;simp only at this;omega
    ·have:=h.bel x i v N;omega
  have aj: ¬xM s.strs (s.pks.length:Int):=λ⟨aa,u,a,b⟩=>by have:=(h.few aa u a _ b).2;omega
  have ad: ∀x l,qh s.lanes x=ϊ l->(s.pks.length:Int)∉xI l:=λx l U hi=>by
   have:=(h.bel x _ 0 (h.owd x l U _ hi).1).2;omega
  obtain⟨am,an⟩:=Pa t.buf (yV t p.sq) s.clock s.pks.length;obtain⟨ab,ap,aq⟩:=Pb t.buf (yV t p.sq) s.clock s.pks.length;by_cases hf:yY (jP t.buf (yV t p.sq) s.clock s.pks.length).2=0
  ·rw[ϓ hf];exact((ac.grow (t':=Ye t p s.clock s.pks.length) ht (s.pks.length:Int) (am (ab.1 hf)) (by simp only[ώ,Ϙ,Ϣ];omega) aj ad).fin (λy i I _=>I.2 I.1)).same rfl rfl rfl rfl
  ·rw[Ϗ hf];have O:(Ye t p s.clock s.pks.length).buf.holds=t.buf.holds:=by
    unfold Ye;simp only;rw[an (λe=>hf (ab.2 e))]
   refine((((ac.keep (t':=Ye t p s.clock s.pks.length) ht O).settled (prR (j8 o.1) s.tab.u) (s.pks.length:Int) (yY (jP t.buf (yV t p.sq) s.clock s.pks.length).2) τ (λx d=> ?_) ad)).fin (λy i I _=>I.2 I.1)).same rfl rfl rfl rfl;simp only at d;rw[J] at d;split at d
   ·rename_i H;exact H.2
   ·rw[ag x] at d;cases d
def qR.tell1 (h:qR P s) (x:Int):qR P (s.tell1 x):=by
 unfold RmS.tell1;cases qh s.tab.u x with
 | none=>exact h
 | some sb=>
  simp only;split
  ·cases qh s.lanes x with
   | none=>exact h
   | some l=>
    simp only;split
    ·cases ht:qh s.strs (sb.2.2,l.cur) with
     | none=>exact h
     | some t=>exact h.keep ht rfl
    ·exact h
  ·exact h
def kS {Q:RmS->Prop} (d: ∀s x,Q s->Q (f s x)): ∀(L:List α) (s:RmS),Q s->Q (L.foldl f s)
 | [],_,h=>h
 | x::L,s,h=>kS d L (f s x) (d s x h)
def qR.tell (h:qR P s) (b:List Int):qR P (s.tell b):=by
 unfold RmS.tell;split
 ·refine kS (λs x h=> ?_) _ _ (h.same rfl rfl rfl rfl);unfold RmS.tellS;exact kS (Q:=qR P) (λs x h=>qR.tell1 h x) _ _ h
 ·exact h.same rfl rfl rfl rfl
def qR.read (h:OwO s) (G:DU s):OwO s.read:=by
 unfold RmS.read;cases s.queue with
 | nil=>exact h
 | cons b q=>
  simp only;have d:OwO {s with queue:=q}:=qR.same h rfl rfl rfl rfl;split
  ·exact qR.tell d b
  ·unfold RmS.media;split
   ·cases qh s.tab.o (jl b).1.sc with
    | none=>exact qR.same d rfl rfl rfl rfl
    | some o=>exact qR.accept d G o _
   ·exact qR.same d rfl rfl rfl rfl
def qR.tick (h:qR P s):qR P s.tick.1:=by
 unfold RmS.tick;split
 ·exact h
 ·refine kS (λs o h=> ?_) _ _ (h.same rfl rfl rfl rfl);unfold RmS.tick1;cases ht:qh s.strs o with
  | none=>exact h
  | some t=>
   simp only;split
   ·exact(h.keep (t':={t with asks:=(vU s.cfg.space s.cfg.retry t.asks (s.wants o) s.clock).1}) ht rfl).same rfl rfl rfl rfl
   ·exact h.keep ht rfl
def qR.publish (h:qR P s) (p:Int) (N:0<=p/\p<3) (d: ∀k,qh s.strs (p,k)=ϋ):qR P {s with strs:=qx (qx (qx s.strs (p,0) (uc s.cfg)) (p,1) (uc s.cfg)) (p,2) (uc s.cfg)}:=by
 have G: ∀k,0<=k/\k<3->(p,k)∈orgs:=λk J=>by
  have H:p=0∨p=1∨p=2:=by omega
  have I:k=0∨k=1∨k=2:=by omega
  rcases H with rfl | rfl | rfl<;>rcases I with rfl | rfl | rfl<;>decide
 refine(((h.strNew (G 0 ζ) (d 0) (t':=uc s.cfg) rfl).strNew (G 1 ζ) ?_ (t':=uc s.cfg) rfl).strNew (G 2 ζ) ?_ (t':=uc s.cfg) rfl).same rfl rfl rfl rfl
 ·show qh (qx s.strs (p,0) _) _=ϋ;rw[vF _ _ (λe=>by have:=Γ Prod.snd e;simp at this)];exact d 1
 ·show qh (qx (qx s.strs (p,0) _) (p,1) _) _=ϋ;rw[vF _ _ (λe=>by have:=Γ Prod.snd e;simp at this),vF _ _ (λe=>by have:=Γ Prod.snd e;simp at this)];exact d 2
def qR.join (h:qR P s) (J:x∈subIds) (G:qh s.lanes x=ϋ) (H:1<=l.room) (hi:xI l=[]):qR P {s with lanes:=qx s.lanes x l}:=
 h.endL x (L:=qx s.lanes x l) (b:=s.book) (λy N=>vF _ _ N) (λm d=>by
  rw[xD] at d;injection d with e
  subst e;exact⟨J,H,hi⟩) (λ_ _ _=>rfl) (λi e=>by
  obtain⟨l2,a,_⟩:=h.src x i e;rw[G] at a
  cases a) (λi v I=>⟨v,I⟩)
def qR.leave (h:qR P s) (x:Int):qR P {s with lanes:=Yh s.lanes x,book:=vM s.book x 7}:=
 h.endL x (L:=Yh s.lanes x) (b:=vM s.book x 7) (λy d=>by rw[uR,Ϗ d]) (λm G=>by
  rw[uR,ϓ rfl] at G
  cases G) (λy i d=>XH _ i 7 d) (λi=>VR _ x i ζ) (λi v H=>VQ _ x i 7 v H)
def Xv (l:LnS) (k:Int):xI (jO l k).1=xI l/\(jO l k).1.room=l.room/\(jO l k).1.gone=l.gone/\(l.wanted=ό->(jO l k).1.wanted=ό):=by
 unfold jO;split
 ·exact⟨rfl,rfl,rfl,λe=>e⟩
 ·split
  ·exact⟨rfl,rfl,rfl,λe=>e⟩
  ·exact⟨rfl,rfl,rfl,λ_=>rfl⟩
def qR.wantL (h:qR P s) (J:qh s.lanes x=ϊ l) (k:Int):qR P {s with lanes:=qx s.lanes x (jO l k).1}:=by
 obtain⟨d,G,H,I⟩:=Xv l k;exact h.lane J [] 1 ζ (by rw[d,Θ]) G H I
def vJ [DecidableEq K] {k:K} (v:V): ∀{m:List (K×V)},(qh m k).isSome=ό->(qx m k v).length=m.length
 | [],h=>by simp[qh] at h
 | (a,b)::l,h=>by
  unfold qx;unfold qh at h;by_cases e:k=a
  ·rw[ϓ e];rfl
  ·rw[Ϗ e] at h ⊢;rw[Ϙ,vJ v h,Ϙ]
def Qz [DecidableEq K] (k:K) (v:V): ∀(m:List (K×V)),(qx m k v).length<=m.length+1
 | []=>by simp[qx]
 | (a,b)::l=>by
  unfold qx;split
  ·simp
  ·have:=Qz k v l;simp only[Ϙ];omega
def xm [DecidableEq K] (g:V->α) {m:List (K×V)} {k:K} {u v:V} (h:qh m k=ϊ u) (e:g v=g u) (x:K):(qh (qx m k v) x).map g=(qh m x).map g:=by
 rw[qF];by_cases c:x=k
 ·rw[ϓ c,c,h];exact Γ ϊ e
 ·rw[Ϗ c]
def zq (b:Bk) (x id f:Int):(jp b x id f).length=b.length:=by
 unfold jp zi
 repeat' split
 all_goals first | rfl | exact vJ _ (by assumption)
def gW (x f:Int): ∀(E:List Int) (b:Bk),(E.foldl (λb id=>jp b x id f) b).length=b.length
 | [],_=>rfl
 | id::E,b=>by rw[A6,gW x f E,zq]
def vQ (id f:Int): ∀(E:List Int) (b:Bk),(xG b E id f).length=b.length
 | [],_=>rfl
 | x::E,b=>by
  have:=vQ id f E (jp b x id f);unfold xG at this ⊢;rw[A6,this,zq]
structure Loc (s s':RmS):Prop where
 cfg:s'.cfg=s.cfg
 closed:s'.closed=s.closed
 ret:s'.ret=s.ret
 clock:s'.clock=s.clock
 queue:s'.queue=s.queue
 tab:s'.tab=s.tab
 pks:s'.pks=s.pks
 reqs:s'.reqs=s.reqs
 cnt:s'.cnt=s.cnt
 book:s'.book.length=s.book.length
 lanes: ∀x,(qh s'.lanes x).map (λl=>(l.gone,l.wanted,l.W))=(qh s.lanes x).map λl=>(l.gone,l.wanted,l.W)
 strs: ∀o,(qh s'.strs o).map (λt=>(t.any,t.great,t.asks))=(qh s.strs o).map λt=>(t.any,t.great,t.asks)
def Loc.refl (s:RmS):Loc s s:=⟨rfl,rfl,rfl,rfl,rfl,rfl,rfl,rfl,rfl,rfl,λ_=>rfl,λ_=>rfl⟩
def Loc.trans {s'':RmS} (h:Loc s s') (k:Loc s' s''):Loc s s'':=
 ⟨k.cfg.trans h.cfg,k.closed.trans h.closed,k.ret.trans h.ret,k.clock.trans h.clock,k.queue.trans h.queue,k.tab.trans h.tab,k.pks.trans h.pks,k.reqs.trans h.reqs,k.cnt.trans h.cnt,k.book.trans h.book,λx=>(k.lanes x).trans (h.lanes x),λo=>(k.strs o).trans (h.strs o)⟩
def za (d: ∀s x,Loc s (f s x)): ∀(L:List α) (s:RmS),Loc s (L.foldl f s)
 | [],s=>Loc.refl s
 | x::L,s=>(d s x).trans (za d L (f s x))
def Gz (s:RmS) (x:Int):Loc s (s.tell1 x):=by
 unfold RmS.tell1;cases qh s.tab.u x with
 | none=>exact Loc.refl s
 | some sb=>
  simp only;split
  ·cases qh s.lanes x with
   | none=>exact Loc.refl s
   | some l=>
    simp only;split
    ·cases ht:qh s.strs (sb.2.2,l.cur) with
     | none=>exact Loc.refl s
     | some t=>exact⟨rfl,rfl,rfl,rfl,rfl,rfl,rfl,rfl,rfl,rfl,λ_=>rfl,xm _ ht rfl⟩
    ·exact Loc.refl s
  ·exact Loc.refl s
def ko (L:List Int) (s:RmS):Loc s (L.foldl RmS.tellS s):=za (λs _=>za Gz _ s) L s
def ZE (l:LnS) (d:ItS):((xp l d).1.gone,(xp l d).1.wanted,(xp l d).1.W)=(l.gone,l.wanted,l.W):=by
 unfold xp yX
 repeat' split
 all_goals rfl
def Bj (d:ItS) (s:RmS) (x:Int):Loc s (s.put1 d x):=by
 unfold RmS.put1;split
 ·cases hl:qh s.lanes x with
  | none=>exact Loc.refl s
  | some l=>
   simp only;split
   ·exact⟨rfl,rfl,rfl,rfl,rfl,rfl,rfl,rfl,rfl,zq _ _ _ _,xm _ hl (ZE l d),λ_=>rfl⟩
   ·exact⟨rfl,rfl,rfl,rfl,rfl,rfl,rfl,rfl,rfl,rfl,xm _ hl (ZE l d),λ_=>rfl⟩
 ·exact Loc.refl s
def kr (s:RmS):Loc s s.order:=by
 unfold RmS.order;cases s.ready with
 | none=>exact Loc.refl s
 | some o=>
  simp only;cases ht:qh s.strs o with
  | none=>exact Loc.refl s
  | some t=>
   have h:Loc s {s with strs:=qx s.strs o {t with buf:=(yD t.buf s.clock).1}}:=⟨rfl,rfl,rfl,rfl,rfl,rfl,rfl,rfl,rfl,rfl,λ_=>rfl,xm _ ht rfl⟩;exact h.trans (za (Bj _) _ _)
def vu (s:RmS) (x:Int):Loc s (s.choose x):=by
 unfold RmS.choose;cases hl:qh s.lanes x with
 | none=>exact Loc.refl s
 | some l=>
  refine⟨rfl,rfl,rfl,rfl,rfl,rfl,rfl,rfl,rfl, ?_,xm _ hl ?_,λ_=>rfl⟩
  ·simp only;split
   ·exact zq _ _ _ _
   ·rfl
  ·rcases XJ l with ⟨_,e⟩ | ⟨_,x,A,_,_,e⟩<;>rw[e]
def yA (s:RmS) (x:Int):Loc s (s.rewrite x):=by
 unfold RmS.rewrite;cases hl:qh s.lanes x with
 | none=>exact Loc.refl s
 | some l=>
  refine⟨rfl,rfl,rfl,rfl,rfl,rfl,rfl,rfl,rfl, ?_,xm _ hl ?_,λ_=>rfl⟩
  ·simp only;split
   ·exact zq _ _ _ _
   ·rfl
  ·rcases qb4 l with ⟨_,e⟩ | ⟨x,f,B,_,e⟩<;>rw[e]
def OM (s:RmS) (w:Og):Loc s (s.drainL w):=by
 unfold RmS.drainL;cases hl:qh s.lanes w.2 with
 | none=>exact Loc.refl s
 | some l=>exact⟨rfl,rfl,rfl,rfl,rfl,rfl,rfl,rfl,rfl,gW _ _ _ _,xm _ hl rfl,λ_=>rfl⟩
def vn (s:RmS) (o:Og):Loc s (s.drainO o):=by
 unfold RmS.drainO;cases ht:qh s.strs o with
 | none=>exact Loc.refl s
 | some t=>
  have h:Loc s {s with strs:=qx s.strs o {t with buf:=vP t.buf}}:=⟨rfl,rfl,rfl,rfl,rfl,rfl,rfl,rfl,rfl,rfl,λ_=>rfl,xm _ ht rfl⟩;exact h.trans (za (f:=RmS.drain1) (λs i=>⟨rfl,rfl,rfl,rfl,rfl,rfl,rfl,rfl,rfl,(vQ i 8 subIds s.book:(xG s.book subIds i 8).length=s.book.length),λ_=>rfl,λ_=>rfl⟩) _ _)
def uu {β:Type} {f:α->β} {b:Option α} (h:a.map f=b.map f) {x:α} (d:a=ϊ x): ∃y,b=ϊ y/\f x=f y:=by
 rw[d] at h;cases b with
 | none=>cases h
 | some y=>exact⟨y,rfl,by injection h⟩
def yt {β:Type} {f:α->β} {b:Option α} (h:a.map f=b.map f):a.isSome=b.isSome:=by
 have:=Γ Option.isSome h
 simpa using this
structure Gm (s:RmS):Prop where
 keys: ∀x,(qh s.tab.u x).isSome=ό->0<=x/\x<6
 lane: ∀x,(qh s.tab.u x).isSome=(qh s.lanes x).isSome
 act:DU s
 pub: ∀x sb,qh s.tab.u x=ϊ sb->sb.2.1=ό->(qh s.tab.s (sb.2.2,0)).isSome=ό
 str: ∀p n,jj n=ό->(qh s.strs (p,n)).isSome=(qh s.tab.s (p,0)).isSome
 org: ∀x o,qh s.tab.o x=ϊ o->(qh s.strs o).isSome=ό
 src: ∀o v,qh s.tab.s o=ϊ v->0<=v/\v<=4294967295
def Gm.loc (h:Gm s) (d:s'.tab=s.tab) (I: ∀x,(qh s'.lanes x).map (λl=>(l.gone,l.wanted))=(qh s.lanes x).map λl=>(l.gone,l.wanted)) (J: ∀o,(qh s'.strs o).isSome=(qh s.strs o).isSome):Gm s':=by
 refine⟨by rw[d];exact h.keys,λx=>by rw[d,yt (I x)];exact h.lane x,λx U G N=> ?_,by rw[d];exact h.pub,λp n O=>by rw[d,J];exact h.str p n O,λx o H=>by rw[d] at H;rw[J];exact h.org x o H,by rw[d];exact h.src⟩;rw[d] at G;obtain⟨l,a,b,c⟩:=h.act x U G N;obtain⟨l',a',e⟩:=uu (I x).symm a;simp only[C8] at e;exact⟨l',a',by rw[<-e.1];exact b,by rw[<-e.2];exact c⟩
def Loc.tb (h:Loc s s') (k:Gm s):Gm s':=
 k.loc h.tab (λx=>by have:=Γ (Option.map λp:Bool×Bool×List (Int×List Int)=>(p.1,p.2.1)) (h.lanes x);rw[Option.map_map,Option.map_map] at this;exact this) (λo=>yt (h.strs o))
structure JR (n:Nat) (s:RmS):Prop where
 cfg:xY s.cfg=ό
 malf:0<=s.cnt.malf/\s.cnt.malf<=n
 told:0<=s.cnt.told/\s.cnt.told<=n
 strange:0<=s.cnt.strange/\s.cnt.strange<=n
 acc:s.cnt.acc=s.pks.length
 lost:0<=s.cnt.lost/\s.cnt.lost<=9* n
 pks:s.pks.length<=n
 clock:0<=s.clock/\s.clock<=n
 great: ∀o t,qh s.strs o=ϊ t->t.any=ό->65536<=t.great/\t.great<=65536* (n+2)
 asks: ∀o t,qh s.strs o=ϊ t->0<=t.asks.tries/\t.asks.tries<=9* n/\0<=t.asks.last/\t.asks.last<=n
 queue: ∀b∈s.queue,Byt b/\b.length<=400
 fit:(s.queue.length:Int)<=s.cfg.room
 pkok: ∀a∈s.pks,uf a.pk/\uj a.pk/\jJ a.pk=ό
 few:s.tab.u.length<=n
 wr: ∀x l,qh s.lanes x=ϊ l->l.W.length<=n
 book:s.book.length<=6* n
 reqs:s.reqs.length<=9* n
def JR.up (h:JR n s):JR (n+1) s:=by
 obtain⟨d,ac,ad,ae,O,af,ag,ah,U,G,H,I,J,Y,N,aa,ab⟩:=h;exact⟨d,τ,τ,τ,O,τ,τ,τ,λo t a b=>by have:=U o t a b;omega,λo t a=>by have:=G o t a;omega,H,I,J,τ,λx l a=>by have:=N x l a;omega,τ,τ⟩
def Loc.num (h:Loc s s') (k:JR n s):JR n s':=by
 obtain⟨d,aa,ab,ac,ad,ae,af,ag,ah,G,H,I,J,N,O,U,Y⟩:=k;refine⟨by rw[h.cfg];exact d,by rw[h.cnt];exact aa,by rw[h.cnt];exact ab,by rw[h.cnt];exact ac,by rw[h.cnt,h.pks];exact ad,by rw[h.cnt];exact ae,by rw[h.pks];exact af,by rw[h.clock];exact ag,λo t a b=> ?_,λo t a=> ?_,by rw[h.queue];exact H,by rw[h.queue,h.cfg];exact I,by rw[h.pks];exact J,by rw[h.tab];exact N,λx l a=> ?_,by rw[h.book];exact U,by rw[h.reqs];exact Y⟩
 ·obtain⟨t',e,f⟩:=uu (h.strs o) a;simp only[C8] at f;rw[f.2.1];exact ah o t' e (by rw[<-f.1];exact b)
 ·obtain⟨t',e,f⟩:=uu (h.strs o) a;simp only[C8] at f;rw[f.2.2];exact G o t' e
 ·obtain⟨l',e,f⟩:=uu (h.lanes x) a;simp only[C8] at f;rw[f.2.2];exact O x l' e
structure qV (n:Nat) (s:RmS):Prop where
 ow:OwO s
 tb:Gm s
 num:JR n s
def qV.up (h:qV n s):qV (n+1) s:=⟨h.ow,h.tb,h.num.up⟩
def Loc.ok (h:Loc s s') (k:qV n s) (o:OwO s'):qV n s':=⟨o,h.tb k.tb,h.num k.num⟩
def kF {c:CfR} (h:xY c=ό):(1<=c.room/\c.room<=8)/\Ok c.hold c.wait/\(1<=c.space/\c.space<=c.retry/\c.retry<=1000)/\1<=c.most/\c.most<=10:=by
 unfold xY at h;simp only[C2,C3] at h;exact h
structure Tk (m:Nat) (now:Int) (s s':RmS):Prop where
 cfg:s'.cfg=s.cfg
 queue:s'.queue=s.queue
 tab:s'.tab=s.tab
 pks:s'.pks=s.pks
 cnt:s'.cnt=s.cnt
 book:s'.book=s.book
 lanes:s'.lanes=s.lanes
 clock:s'.clock=s.clock
 reqs:s'.reqs.length<=s.reqs.length+m
 strs: ∀o,(qh s'.strs o).map (λt=>(t.any,t.great))=(qh s.strs o).map λt=>(t.any,t.great)
 asks: ∀o t',qh s'.strs o=ϊ t'-> ∃t,qh s.strs o=ϊ t/\((0<=t.asks.tries->0<=t'.asks.tries)/\t'.asks.tries<=(if 0<=t.asks.tries then t.asks.tries else 0)+m/\(t'.asks.last=t.asks.last∨t'.asks.last=now))
def Ay (s:RmS) (o:Og):Tk 1 s.clock s (s.tick1 o):=by
 have d:Tk 1 s.clock s s:=⟨rfl,rfl,rfl,rfl,rfl,rfl,rfl,rfl,τ,λ_=>rfl,λo t' h=>⟨t',h,λe=>e,by split<;>omega,ϑ rfl⟩⟩;unfold RmS.tick1;cases ht:qh s.strs o with
 | none=>exact d
 | some t=>
  simp only;have key: ∀o2 t',qh (qx s.strs o {t with asks:=(vU s.cfg.space s.cfg.retry t.asks (s.wants o) s.clock).1}) o2=ϊ t'-> ∃t,qh s.strs o2=ϊ t/\((0<=t.asks.tries->0<=t'.asks.tries)/\t'.asks.tries<=(if 0<=t.asks.tries then t.asks.tries else 0)+1/\(t'.asks.last=t.asks.last∨t'.asks.last=s.clock)):=by
   intro o2 t' h;rw[qF] at h;split at h
   ·rename_i e;injection h with e2
    subst e e2;refine⟨t,ht, ?_⟩;simp only;unfold vU uq;split
    ·refine⟨λe=> ?_, ?_,ϑ rfl⟩
     ·simp only;split<;>omega
     ·simp only;split<;>split<;>omega
    ·refine⟨λe=> ?_, ?_,ϕ rfl⟩
     ·simp only;split<;>omega
     ·simp only;split<;>split<;>omega
   ·exact⟨t',h,λe=>e,by split<;>omega,ϑ rfl⟩
  split
  ·exact⟨rfl,rfl,rfl,rfl,rfl,rfl,rfl,rfl,by unfold RmS.request;simp,xm _ ht rfl,key⟩
  ·exact⟨rfl,rfl,rfl,rfl,rfl,rfl,rfl,rfl,η,xm _ ht rfl,key⟩
def ur: ∀(L:List Og) (s:RmS),Tk L.length s.clock s (L.foldl RmS.tick1 s)
 | [],s=>⟨rfl,rfl,rfl,rfl,rfl,rfl,rfl,rfl,η,λ_=>rfl,λo t' h=>⟨t',h,λe=>e,by split<;>omega,ϑ rfl⟩⟩
 | o::L,s=>by
  rw[A6];have h:=Ay s o;have k:=ur L (s.tick1 o);rw[h.clock] at k;refine⟨k.cfg.trans h.cfg,k.queue.trans h.queue,k.tab.trans h.tab,k.pks.trans h.pks,k.cnt.trans h.cnt,k.book.trans h.book,k.lanes.trans h.lanes,by rw[k.clock,h.clock], ?_,λo=>(k.strs o).trans (h.strs o),λo2 t' O=> ?_⟩
  ·have:=k.reqs;have:=h.reqs;rw[Ϙ];omega
  ·obtain⟨t1,G,I,c1,d⟩:=k.asks o2 t' O;obtain⟨t0,a0,H,J,N⟩:=h.asks o2 t1 G;refine⟨t0,a0,λe=>I (H e), ?_, ?_⟩
   ·rw[Ϙ];split at c1<;>split at J<;>split<;>omega
   ·rcases d with d | d
    ·rw[d];exact N
    ·exact ϕ d
def uC (s:RmS):s.origins.length<=9:=ϙ (C7 _ _) ζ
def qV.tick (h:qV n s):qV (n+1) s.tick.1:=by
 have I:=h.ow.tick;unfold RmS.tick at I ⊢;split
 ·exact h.up
 ·rename_i an;rw[Ϗ an] at I;have k:=ur s.origins {s with clock:=s.clock+1};have az:=uC s;obtain⟨af,ar,au,av,al,aw,ax,ay,am,ag,ah,ai,aj,ao,ak,ap,aq⟩:=h.num;simp only at k I ⊢;generalize List.foldl RmS.tick1 {s with clock:=s.clock+1} s.origins=s' at *;have J:=k.cfg;have N:=k.queue;have O:=k.tab;have H:=k.pks;have d:=k.cnt;have Y:=k.book;have U:=k.lanes;have aa:=k.clock;have ae:=k.reqs;simp only at J N O H d Y U aa ae;refine⟨I,h.tb.loc O (λx=>by rw[U]) (λo=>yt (k.strs o)),⟨by rw[J];exact af,by rw[d];omega,by rw[d];omega,by rw[d];omega,by rw[d,H];exact al,by rw[d];omega,by rw[H];omega,by rw[aa];omega,λo t a b=> ?_,λo t a=> ?_,by rw[N];exact ah,by rw[J,N];exact ai,by rw[H];exact aj,by rw[O];omega,λx l a=> ?_,by rw[Y];omega,τ⟩⟩
  ·obtain⟨t',e,f⟩:=uu (k.strs o) a;simp only[C8] at f;have:=am o t' e (by rw[<-f.1];exact b);rw[f.2];omega
  ·obtain⟨t0,a0,ac,ad,G⟩:=k.asks o t a;obtain⟨ab,aA,aB,aC⟩:=ag o t0 a0;rw[ϓ ab] at ad;refine⟨ac ab,τ, ?_⟩;rcases G with G | G<;>rw[G]<;>omega
  ·rw[U] at a;have:=ak x l a;omega
def qV.order (h:qV n s):qV n s.order:=(kr s).ok h (qR.order h.ow λa d=>(h.num.pkok a d).2.2)
def qV.choose (h:qV n s) (x:Int):qV n (s.choose x):=(vu s x).ok h (h.ow.choose x)
def qV.rewrite (h:qV n s) (x:Int):qV n (s.rewrite x):=(yA s x).ok h (h.ow.rewrite x)
def IG (d sq:Int):d-32768<=KH d sq/\KH d sq<=d+32767:=by
 unfold KH ahd;omega
def WS {sq:Int} (d:0<=sq/\sq<=65535) (h:t.any=ό->65536<=t.great/\t.great<=65536* (n+2)):32768<=yV t sq/\yV t sq<=65536* ((n+1:Nat)+2)/\(t.any=ύ->65536<=yV t sq):=by
 unfold yV;cases ha:t.any with
 | true=>
  have:=h ha;have:=IG t.great sq;simp only[C1];refine⟨τ,τ,λe=>(by cases e)⟩
 | false=>
  simp only[Ξ,D4];refine⟨τ,τ,λ_=>by omega⟩
def Vu (id:Int): ∀(L:List Int) (b:Bk),(Ji b L id).length<=b.length+L.length
 | [],b=>by simp[Ji]
 | x::L,b=>by
  have h:=Vu id L (vT b (x,id)).1;have d:(vT b (x,id)).1.length<=b.length+1:=by
   unfold vT
   repeat' split
   all_goals first | exact Qz _ _ _ | exact D0 _
  unfold Ji at h ⊢;rw[A6,Ϙ];omega
def qV.accept (h:qV n s) (o:Og) (p:Pk) (J:uf p/\uj p/\jJ p=ό/\0<=p.sq/\p.sq<=65535):qV (n+1) (s.accept o p):=by
 have I:=qR.accept h.ow h.tb.act o p;unfold RmS.accept at I ⊢;cases ht:qh s.strs o with
 | none=>exact h.up
 | some t=>
  rw[ht] at I;simp only at I ⊢;obtain⟨U,ag,ah,ai,aj,ak,al,am,H,N,Y,aa,ab,ad,ac,ae,af⟩:=h.num;refine⟨I,h.tb.loc rfl (λx=>rfl) (λo2=> ?_),⟨U,by simp only;omega,by simp only;omega,by simp only;omega, ?_,by simp only;omega, ?_,by simp only;omega,λo2 t2 a b=> ?_,λo2 t2 a=> ?_,Y,aa,λa d=> ?_,by simp only;omega,λx l a=> ?_, ?_,by simp only;omega⟩⟩
  ·simp only;rw[qF];split
   ·rename_i e;rw[e,ht];rfl
   ·rfl
  ·simp only[ώ,Ϙ,Ϣ];omega
  ·simp only[ώ,Ϙ,Ϣ];omega
  ·simp only at a;rw[qF] at a;split at a
   ·injection a with e
    subst e;have O:=WS (n:=n) J.2.2.2 (H o t ht);unfold Ye;simp only;split
    ·rename_i G;rcases G with G | G
     ·have:=O.2.2 G;omega
     ·cases d:t.any with
      | true=>have:=H o t ht d;omega
      | false=>have:=O.2.2 d;omega
    ·rename_i G;cases d:t.any with
     | true=>have:=H o t ht d;omega
     | false=>exact ϧ (ϑ d) G
   ·have:=H o2 t2 a b;omega
  ·simp only at a;rw[qF] at a;split at a
   ·injection a with e
    subst e;have:=N o t ht;unfold Ye;simp only;omega
   ·have:=N o2 t2 a;omega
  ·rcases Ϫ.1 d with d | d
   ·exact ab a d
   ·rw[A8] at d;subst d;exact⟨J.1,J.2.1,J.2.2.1⟩
  ·have:=ac x l a;omega
  ·have an:(prR (j8 o.1) s.tab.u).length<=6:=by unfold prR;exact ϙ (C7 _ _) ζ
   have:=Vu s.pks.length (prR (j8 o.1) s.tab.u) s.book;simp only;split
   ·omega
   ·rw[vQ];omega
def qV.read (h:qV n s):qV (n+1) s.read:=by
 have d:=qR.read h.ow h.tb.act;unfold RmS.read at d ⊢;cases hq:s.queue with
 | nil=>exact h.up
 | cons b q=>
  rw[hq] at d;simp only at d ⊢;obtain⟨am,av,aw,ax,ay,az,aA,aB,aC,an,J,N,ao,ap,aq,ar,au⟩:=h.num;have aD:=J b (by rw[hq];exact ϟ);have O:qV n {s with queue:=q}:=⟨h.ow.same rfl rfl rfl rfl,h.tb.loc rfl (λ_=>rfl) (λ_=>rfl),⟨am,av,aw,ax,ay,az,aA,aB,aC,an,λc H=>J c (by rw[hq];exact ϛ _ H),by rw[hq] at N;simp only[Ϙ] at N ⊢;omega,ao,ap,aq,ar,au⟩⟩;have G: ∀c:CnR,c.acc=s.cnt.acc->c.lost=s.cnt.lost->(0<=c.malf/\c.malf<=n+1)->(0<=c.told/\c.told<=n+1)->(0<=c.strange/\c.strange<=n+1)->qV (n+1) {s with queue:=q,cnt:=c}:=by
   intro c c1 c2 c3 c4 c5;obtain⟨U,aE,aF,aG,ah,ai,aj,ak,al,Y,aa,ab,ac,ad,ae,af,ag⟩:=O.up.num;exact⟨h.ow.same rfl rfl rfl rfl,h.tb.loc rfl (λ_=>rfl) (λ_=>rfl),⟨U,c3,c4,c5,by simp only;rw[c1];exact ah,by simp only;rw[c2];exact ai,aj,ak,al,Y,aa,ab,ac,ad,ae,af,ag⟩⟩
  split
  ·rename_i H;rw[ϓ H] at d;unfold RmS.tell at d ⊢;split
   ·rename_i I;rw[ϓ I] at d;exact(ko _ _).ok (G {s.cnt with told:=s.cnt.told+1} rfl rfl (by simp only;omega) (by simp only;omega) (by simp only;omega)) d
   ·exact G {s.cnt with malf:=s.cnt.malf+1} rfl rfl (by simp only;omega) (by simp only;omega) (by simp only;omega)
  ·unfold RmS.media;split
   ·rename_i I;cases qh s.tab.o (jl b).1.sc with
    | none=>exact G {s.cnt with strange:=s.cnt.strange+1} rfl rfl (by simp only;omega) (by simp only;omega) (by simp only;omega)
    | some o=>exact O.accept o _ (Xc aD.1 I)
   ·exact G {s.cnt with malf:=s.cnt.malf+1} rfl rfl (by simp only;omega) (by simp only;omega) (by simp only;omega)
def qV.write (h:qV n s) (x:Int) (acc:Bool):qV (n+1) (s.write x acc):=by
 have G:=h.ow.write x acc;unfold RmS.write at G ⊢;cases hl:qh s.lanes x with
 | none=>exact h.up
 | some l=>
  rw[hl] at G;simp only at G ⊢;obtain⟨aE,aL,aM,aN,aO,aP,aQ,aR,aS,aF,aG,aH,aI,J,O,aJ,aK⟩:=h.num;have U: ∀c:Bool,(if c then jp s.book x (qX l acc).2.1 (qX l acc).2.2.1 else s.book).length=s.book.length:=by
   intro c;cases c
   ·rfl
   ·exact zq _ _ _ _
  have ax:=h.ow.sub x l hl;have aT:(qX l acc).1.W.length<=l.W.length+1:=by
   rcases uV l acc with ⟨_,e⟩ | ⟨o,C,ar,⟨H,e⟩ | ⟨_,_,H,e⟩⟩
   ·rw[e];simp
   ·rw[e];simp only;split
    ·simp
    ·omega
   ·rw[e];simp
  have aw:(qX l acc).1.wanted=l.wanted:=by
   rcases uV l acc with ⟨_,e⟩ | ⟨o,C,ar,⟨H,e⟩ | ⟨_,_,H,e⟩⟩<;>rw[e]
  have au:(∀y,(qh (zM s.tab x).1.u y).isSome=(qh s.tab.u y).isSome)/\(zM s.tab x).1.o=s.tab.o/\(zM s.tab x).1.s=s.tab.s/\(∀y d,qh (zM s.tab x).1.u y=ϊ d->d.2.1=ό->y≠x/\qh s.tab.u y=ϊ d)/\(zM s.tab x).1.u.length<=n:=by
   unfold zM;rw[ϓ (subIds_iff.1 ax.1)];split
   ·rename_i I;refine⟨λy=> ?_,rfl,rfl,λy d a b=> ?_, ?_⟩
    ·simp only;rw[qF];split
     ·rename_i e;rw[e];exact I.1.symm
     ·rfl
    ·simp only at a;rw[qF] at a;split at a
     ·injection a with e
      rw[<-e] at b;cases b
     ·rename_i e;exact⟨e,a⟩
    ·simp only;rw[vJ _ I.1];exact J
   ·rename_i I;refine⟨λy=>rfl,rfl,rfl,λy d a b=>⟨λe=> ?_,a⟩,J⟩;rw[e] at a;exact I ⟨by rw[a];rfl,by rw[a];exact b⟩
  have Y: ∀(T:TS) (b:Bk),T.u.length<=n->b.length=s.book.length->JR (n+1) {s with lanes:=qx s.lanes x (qX l acc).1,tab:=T,book:=b}:=by
   intro T b aU H;obtain⟨ad,aj,ak,al,am,an,ao,ap,aq,ae,af,ag,ah,aB,aC,aD,ai⟩:=h.num.up;refine⟨ad,aj,ak,al,am,an,ao,ap,aq,ae,af,ag,ah,by simp only;omega,λy m a=> ?_,by simp only;omega,ai⟩;simp only at a;rw[qF] at a;split at a
   ·injection a with e
    subst e;have:=O x l hl;omega
   ·have:=O y m a;omega
  cases hg:(qX l acc).1.gone with
  | true=>
   rw[hg] at G;simp only[C1] at G ⊢;obtain⟨aa,az,N,ab,aA⟩:=au;refine⟨G,⟨λy ay=>h.tb.keys y (by rw[<-aa];exact ay),λy=> ?_,λy d a b=> ?_,λy d a b=> ?_,λp m av=> ?_,λy o a=> ?_,by simp only;rw[N];exact h.tb.src⟩,Y _ _ aA (by rw[show ∀(m:Bk) a f,(vM m a f).length=m.length from λm a f=>by simp[vM],U])⟩
   ·simp only;rw[aa,h.tb.lane,qF];split
    ·rename_i e;rw[e,hl];rfl
    ·rfl
   ·obtain⟨e,ac⟩:=ab y d a b;obtain⟨m,c1,c2,c3⟩:=h.tb.act y d ac b;exact⟨m,by simp only;rw[qF,Ϗ e];exact c1,c2,c3⟩
   ·simp only;rw[N];exact h.tb.pub y d (ab y d a b).2 b
   ·simp only;rw[N];exact h.tb.str p m av
   ·simp only at a ⊢;rw[az] at a;exact h.tb.org y o a
  | false=>
   rw[hg] at G;simp only[Ξ,D4] at G ⊢;refine⟨G,⟨h.tb.keys,λy=> ?_,λy d a b=> ?_,h.tb.pub,h.tb.str,h.tb.org,h.tb.src⟩,Y s.tab _ J (U _)⟩
   ·simp only;rw[h.tb.lane,qF];split
    ·rename_i e;rw[e,hl];rfl
    ·rfl
   ·obtain⟨m,c1,c2,c3⟩:=h.tb.act y d a b;by_cases e:y=x
    ·subst e;rw[hl] at c1;injection c1 with e2
     subst e2;exact⟨(qX l acc).1,by simp only;rw[qF,ϓ rfl],hg,by rw[aw];exact c3⟩
    ·exact⟨m,by simp only;rw[qF,Ϗ e];exact c1,c2,c3⟩
def qV.ret (h:qV n s) (r:List (Og×Bool)):qV n {s with ret:=r}:=by
 obtain⟨d,aa,ab,ac,ad,ae,af,ag,ah,G,H,I,J,N,O,U,Y⟩:=h.num;exact⟨h.ow.same rfl rfl rfl rfl,h.tb.loc rfl (λ_=>rfl) (λ_=>rfl),⟨d,aa,ab,ac,ad,ae,af,ag,ah,G,H,I,J,N,O,U,Y⟩⟩
def qV.drain (h:qV n s) (w:Og):qV (n+1) (s.drain w):=by
 unfold RmS.drain;split
 ·obtain⟨af,au,av,aw,ax,ay,az,aA,aB,ak,al,am,an,ao,ap,aq,ar⟩:=h.num;have aC:=(kF af).1;obtain⟨d,U,Y,aa,ab,aj,ac,ad,ae,G,ah,ai,H,I,J,N,O⟩:=h.num.up;exact⟨h.ow.same rfl rfl rfl rfl,h.tb.loc rfl (λ_=>rfl) (λ_=>rfl),⟨d,U,Y,aa,ab,by simp only;omega,ac,ad,ae,G,λb ag=>by simp at ag,by simp only[Ϣ];omega,H,I,J,N,O⟩⟩
 ·split
  ·exact(za vn _ s).ok h.up (qR.drainOs _ h.ow)
  ·exact(OM s w).ok h.up (h.ow.drainL w)
def qV.endW (h:qV n s) (w:Og):qV (n+1) (s.endW w):=by
 unfold RmS.endW;split
 ·exact(h.drain w).ret _
 ·exact h.drain w
def qV.stepW (h:qV n s) (w:Og) (acc:Bool):qV (n+1) (s.stepW w acc):=by
 unfold RmS.stepW;split
 ·exact h.endW w
 ·split
  ·exact h.read
  ·split
   ·exact h.order.up
   ·split
    ·exact(h.choose w.2).up
    ·split
     ·exact(h.rewrite w.2).up
     ·exact h.write w.2 acc
def qV.pick (h:qV n s) (w:Og) (acc:Bool):qV (n+1) (s.pick w acc).1:=by
 unfold RmS.pick;split
 ·exact h.stepW w acc
 ·exact h.up
def qV.publish (h:qV n s) (p s0 s1 s2:Int) (I: ∀v∈[s0,s1,s2],0<=v/\v<=4294967295):qV (n+1) (s.publish p s0 s1 s2).1:=by
 unfold RmS.publish;split
 ·exact h.up
 ·split
  ·rename_i av;simp only;have G:=av;unfold vA at G;split at G
   ·rename_i N;split at G
    ·simp at G
    ·rename_i ap;split at G
     ·simp at G
     ·rename_i O;split at G
      ·simp at G
      ·rename_i ar;have e:(vA s.tab p s0 s1 s2).1={s.tab with o:=qx (qx (qx s.tab.o s0 (p,0)) s1 (p,1)) s2 (p,2),s:=qx (qx (qx s.tab.s (p,0) s0) (p,1) s1) (p,2) s2}:=by
        unfold vA;rw[ϓ N,Ϗ ap,Ϗ O,Ϗ ar];rfl
       rw[e];have au: ∀k,qh s.strs (p,k)=ϋ:=λk=>by
        cases H:qh s.strs (p,k) with
        | none=>rfl
        | some t=>
         have:=h.tb.str p k (XD (h.ow.org _ t H));rw[H] at this;exact ϧ this.symm O
       have key: ∀(o:Og) {α:Type} {m:List (Og×α)} {a b c:α},(qh (qx (qx (qx m (p,0) a) (p,1) b) (p,2) c) o).isSome=((decide (o=(p,2))||(decide (o=(p,1))||decide (o=(p,0))))||(qh m o).isSome):=by
        intro o α m a b c;rw[qF,qF,qF];by_cases c2:o=(p,2)
        ·rw[ϓ c2,ϻ c2];rfl
        ·rw[Ϗ c2,ϯ c2];by_cases c1:o=(p,1)
         ·rw[ϓ c1,ϻ c1];rfl
         ·rw[Ϗ c1,ϯ c1];by_cases c0:o=(p,0)
          ·rw[ϓ c0,ϻ c0];rfl
          ·rw[Ϗ c0,ϯ c0];rfl
       have J: ∀o t,qh (qx (qx (qx s.strs (p,0) (uc s.cfg)) (p,1) (uc s.cfg)) (p,2) (uc s.cfg)) o=ϊ t->t=uc s.cfg∨qh s.strs o=ϊ t:=by
        intro o t a;rw[qF] at a;split at a
        ·injection a with e;exact ϑ e.symm
        ·rw[qF] at a;split at a
         ·injection a with e;exact ϑ e.symm
         ·rw[qF] at a;split at a
          ·injection a with e;exact ϑ e.symm
          ·exact ϕ a
       obtain⟨U,ah,ai,aj,ak,al,am,an,ao,Y,aa,ab,ac,ad,ae,af,ag⟩:=h.num.up;refine⟨(qR.publish h.ow p N au).same rfl rfl rfl rfl,⟨h.tb.keys,h.tb.lane,h.tb.act,λx aw a b=> ?_,λp2 k H=> ?_,λx o a=> ?_,λo v a=> ?_⟩,⟨U,ah,ai,aj,ak,al,am,an,λo t a b=> ?_,λo t a=> ?_,aa,ab,ac,ad,ae,af,ag⟩⟩
       ·simp only;rw[key,h.tb.pub x aw a b,Bool.or_true]
       ·simp only;rw[key,key];by_cases e2:p2=p
        ·subst e2;have aq:k=0∨k=1∨k=2:=by
          have:=Ϧ H;omega
         rcases aq with rfl | rfl | rfl<;>simp
        ·have d: ∀j i:Int,decide ((p2,j)=(p,i))=ύ:=λj i=>ϯ λc=>e2 (Γ Prod.fst c)
         rw[d,d,d,d,d,d,h.tb.str p2 k H]
       ·simp only at a ⊢;rw[key];rw[qF] at a;split at a
        ·injection a with d;rw[<-d];simp
        ·rw[qF] at a;split at a
         ·injection a with d;rw[<-d];simp
         ·rw[qF] at a;split at a
          ·injection a with d;rw[<-d];simp
          ·rw[h.tb.org x o a,Bool.or_true]
       ·simp only at a;rw[qF] at a;split at a
        ·injection a with d;rw[<-d];exact I _ η
        ·rw[qF] at a;split at a
         ·injection a with d;rw[<-d];exact I _ η
         ·rw[qF] at a;split at a
          ·injection a with d;rw[<-d];exact I _ η
          ·exact h.tb.src o v a
       ·rcases J o t a with c | c
        ·rw[c] at b;cases b
        ·exact ao o t c b
       ·rcases J o t a with c | c
        ·rw[c];unfold uc;simp only;omega
        ·exact Y o t c
   ·simp at G
  ·exact h.up
def qV.join (h:qV n s) (x H sq st:Int):qV (n+1) (s.join x H sq st).1:=by
 unfold RmS.join;split
 ·exact h.up
 ·split
  ·rename_i aq;simp only;have G:=aq;unfold yI at G;split at G
   ·rename_i U;split at G
    ·simp at G
    ·rename_i N;have e:(yI s.tab x H).1={s.tab with u:=qx s.tab.u x (H,ύ,0)}:=by
      unfold yI;rw[ϓ U,Ϗ N]
     rw[e];have O:qh s.tab.u x=ϋ:=by
      cases O:qh s.tab.u x with
      | none=>rfl
      | some v=>rw[O] at N;exact ϧ rfl N
     have J:qh s.lanes x=ϋ:=by
      have:=h.tb.lane x;rw[O] at this;cases J:qh s.lanes x with
      | none=>rfl
      | some l=>rw[J] at this;cases this
     have au:=(kF h.num.cfg).1;have av:=h.num.few;obtain⟨aa,ai,aj,ak,al,am,an,ao,ap,ab,ac,ad,ae,ar,af,ag,ah⟩:=h.num.up;refine⟨(qR.join h.ow (subIds_iff.2 U) J (l:=Vd s.cfg.room.toNat s.cfg.most H sq st) (by show 1<=s.cfg.room.toNat;omega) rfl).same rfl rfl rfl rfl,⟨λy I=> ?_,λy=> ?_,λy Y a b=> ?_,λy Y a b=> ?_,h.tb.str,h.tb.org,h.tb.src⟩,⟨aa,ai,aj,ak,al,am,an,ao,ap,ab,ac,ad,ae, ?_,λy l a=> ?_,ag,ah⟩⟩
     ·simp only at I;rw[qF] at I;split at I
      ·rename_i d;rw[d];exact U
      ·exact h.tb.keys y I
     ·simp only;rw[qF,qF];split
      ·rfl
      ·exact h.tb.lane y
     ·simp only at a ⊢;rw[qF] at a;split at a
      ·injection a with d
       rw[<-d] at b;cases b
      ·rename_i d;rw[qF,Ϗ d];exact h.tb.act y Y a b
     ·simp only at a;rw[qF] at a;split at a
      ·injection a with d
       rw[<-d] at b;cases b
      ·exact h.tb.pub y Y a b
     ·have:=Qz x (H,ύ,(0:Int)) s.tab.u;simp only;omega
     ·simp only at a;rw[qF] at a;split at a
      ·injection a with d
       subst d;simp[Vd]
      ·exact af y l a
   ·simp at G
  ·exact h.up
def Ee (l:LnS) (k:Int):(jO l k).1.W=l.W:=by
 unfold jO
 repeat' split
 all_goals rfl
def qV.wantL (h:qV n s) (d:qh s.lanes x=ϊ l) (k:Int):qV n {s with lanes:=qx s.lanes x (jO l k).1}:=by
 obtain⟨am,an,aj,ak⟩:=Xv l k;obtain⟨H,ab,ac,ad,ae,af,ag,ah,ai,I,J,N,O,U,G,Y,aa⟩:=h.num;refine⟨qR.wantL h.ow d k,⟨h.tb.keys,λy=> ?_,λy al a b=> ?_,h.tb.pub,h.tb.str,h.tb.org,h.tb.src⟩,⟨H,ab,ac,ad,ae,af,ag,ah,ai,I,J,N,O,U,λy m a=> ?_,Y,aa⟩⟩
 ·simp only;rw[h.tb.lane,qF];split
  ·rename_i e;rw[e,d];rfl
  ·rfl
 ·obtain⟨m,c1,c2,c3⟩:=h.tb.act y al a b;simp only;rw[qF];by_cases e:y=x
  ·subst e;rw[d] at c1;injection c1 with e2
   subst e2;exact⟨_,by rw[ϓ rfl],by rw[aj];exact c2,ak c3⟩
  ·exact⟨m,by rw[Ϗ e];exact c1,c2,c3⟩
 ·simp only at a;rw[qF] at a;split at a
  ·injection a with e2
   subst e2;rw[Ee];exact G x l d
  ·exact G y m a
def qV.want (h:qV n s) (x k:Int):qV (n+1) (s.want x k).1:=by
 unfold RmS.want;split
 ·exact h.up
 ·split
  ·exact h.up
  ·split
   ·exact h.up
   ·cases hl:qh s.lanes x with
    | none=>exact h.up
    | some l=>exact(h.wantL hl k).up
def qV.subscribe (h:qV n s) (x p k:Int):qV (n+1) (s.subscribe x p k).1:=by
 unfold RmS.subscribe;split
 ·exact h.up
 ·split
  ·exact h.up
  ·rename_i au;split
   ·exact h.up
   ·rename_i I;split
    ·rename_i aw;cases hl:qh s.lanes x with
     | none=>exact h.up
     | some l=>
      simp only;have G:=aw;unfold vL at G;split at G
      ·rename_i Y;split at G
       ·rename_i J;split at G
        ·simp at G
        ·rename_i av;have e:(vL s.tab x p).1={s.tab with u:=qx s.tab.u x (((qh s.tab.u x).getD sb0).1,ό,p)}:=by
          unfold vL;rw[ϓ Y,ϓ J,Ϗ av]
         rw[e];have U:l.gone=ύ:=by
          unfold JV at I;rw[hl] at I
          simpa using I
         have O:=h.wantL hl k;have aa:(jO l k).1.wanted=ό/\(jO l k).1.gone=ύ:=by
          unfold jO;rw[Ϗ au,Ϗ (by rw[U];decide)];exact⟨rfl,U⟩
         obtain⟨ab,ak,al,am,an,ao,ap,aq,ar,ac,ad,ae,af,ag,ah,ai,aj⟩:=O.num.up;refine⟨O.ow.same rfl rfl rfl rfl,⟨λy H=> ?_,λy=> ?_,λy N a b=> ?_,λy N a b=> ?_,h.tb.str,h.tb.org,h.tb.src⟩,⟨ab,ak,al,am,an,ao,ap,aq,ar,ac,ad,ae,af, ?_,ah,ai,aj⟩⟩
         ·simp only at H;rw[qF] at H;split at H
          ·rename_i d;rw[d];exact Y.1
          ·exact h.tb.keys y H
         ·simp only;rw[qF,qF];split
          ·rfl
          ·exact h.tb.lane y
         ·simp only at a ⊢;rw[qF] at a ⊢;split at a
          ·rename_i d;rw[ϓ d];exact⟨_,rfl,aa.2,aa.1⟩
          ·rename_i d;rw[Ϗ d];exact h.tb.act y N a b
         ·simp only at a ⊢;rw[qF] at a;split at a
          ·injection a with d
           rw[<-d];exact J.2
          ·exact h.tb.pub y N a b
         ·simp only;rw[vJ _ J.1];exact ag
       ·simp at G
      ·simp at G
    ·exact h.up
def ZN [DecidableEq K] (k:K): ∀(m:List (K×V)),(yK m k).length<=m.length
 | []=>by simp[yK]
 | (a,b)::l=>by
  unfold yK;split
  ·simp
  ·have:=ZN k l;simp only[Ϙ];omega
def qV.leave (h:qV n s) (H:(s.tab.u.map Prod.fst).Nodup) (x:Int):qV (n+1) (s.leave x).1:=by
 unfold RmS.leave;split
 ·exact h.up
 ·split
  ·rename_i ao;simp only;have G:=ao;unfold zW at G;split at G
   ·rename_i an;split at G
    ·rename_i am;have e:(zW s.tab x).1={s.tab with u:=yK s.tab.u x}:=by
      unfold zW;rw[ϓ an,ϓ am]
     rw[e];have aq:=h.num.few;obtain⟨N,ae,af,ag,ah,ai,aj,ak,al,O,U,Y,aa,ap,ab,ac,ad⟩:=h.num.up;refine⟨(qR.leave h.ow x).same rfl rfl rfl rfl,⟨λy d=> ?_,λy=> ?_,λy I a b=> ?_,λy I a b=> ?_,h.tb.str,h.tb.org,h.tb.src⟩,⟨N,ae,af,ag,ah,ai,aj,ak,al,O,U,Y,aa, ?_,λy l a=> ?_, ?_,ad⟩⟩
     ·simp only at d;rw[gD H] at d;split at d
      ·cases d
      ·exact h.tb.keys y d
     ·simp only;rw[gD H,uR];split
      ·rfl
      ·exact h.tb.lane y
     ·simp only at a ⊢;rw[gD H] at a;split at a
      ·cases a
      ·rename_i J;rw[uR,Ϗ J];exact h.tb.act y I a b
     ·simp only at a;rw[gD H] at a;split at a
      ·cases a
      ·exact h.tb.pub y I a b
     ·have:=ZN x s.tab.u;simp only;omega
     ·simp only at a;rw[uR] at a;split at a
      ·cases a
      ·exact ab y l a
     ·simp only;rw[show ∀(m:Bk) a f,(vM m a f).length=m.length from λm a f=>by simp[vM]];exact ac
    ·simp at G
   ·simp at G
  ·exact h.up
def qV.arrive (h:qV n s) {b:List Int} (ah:Byt b) (ai:b.length<=400):qV (n+1) (s.arrive b).1:=by
 have d:=(kF h.num.cfg).1;have am:=h.num.fit;have al:=h.num.lost;obtain⟨G,aa,ab,ac,ad,aj,ae,af,ag,H,I,ak,J,N,O,U,Y⟩:=h.num.up;unfold RmS.arrive;split
 ·exact h.up
 ·split
  ·refine⟨h.ow.same rfl rfl rfl rfl,h.tb.loc rfl (λ_=>rfl) (λ_=>rfl),⟨G,aa,ab,ac,ad,aj,ae,af,ag,H,λc d=> ?_, ?_,J,N,O,U,Y⟩⟩
   ·rcases Ϫ.1 d with d | d
    ·exact I c d
    ·rw[A8] at d;rw[d];exact⟨ah,ai⟩
   ·simp only[ώ,Ϙ,Ϣ];omega
  ·refine⟨h.ow.same rfl rfl rfl rfl,h.tb.loc rfl (λ_=>rfl) (λ_=>rfl),⟨G,aa,ab,ac,ad,by simp only;omega,ae,af,ag,H,λc d=> ?_, ?_,J,N,O,U,Y⟩⟩
   ·rcases Ϫ.1 d with d | d
    ·exact I c (List.mem_of_mem_tail d)
    ·rw[A8] at d;rw[d];exact⟨ah,ai⟩
   ·simp only[ώ,Ϙ,Ϣ,List.length_tail];omega
def qV.shut (h:qV n s):qV (n+1) s.shut.1:=by
 unfold RmS.shut;split
 ·exact h.up
 ·obtain⟨d,aa,ab,ac,ad,ae,af,ag,ah,G,H,I,J,N,O,U,Y⟩:=h.num.up;exact⟨h.ow.same rfl rfl rfl rfl,h.tb.loc rfl (λ_=>rfl) (λ_=>rfl),⟨d,aa,ab,ac,ad,ae,af,ag,ah,G,H,I,J,N,O,U,Y⟩⟩
def uQ {c:CfR} (d:xY c=ό):qV 0 (ud c):=by
 have h:=(kF d).1
 refine⟨⟨λo t a=>(by cases a),λo t a=>(by cases a),λo t H t' a=>(by cases a),λo t a=>(by cases a),λx l a=>(by cases a),λx l a=>(by cases a),λx i a=>(by cases a),λx i v a=>(by cases a)⟩,
  ⟨λx a=>(by cases a),λx=>rfl,λx G a=>(by cases a),λx G a=>(by cases a),λp k _=>rfl,λx o a=>(by cases a),λo v a=>(by cases a)⟩,
  ⟨d,by simp[ud],by simp[ud],by simp[ud],rfl,by simp[ud],by simp[ud],by simp[ud],λo t a=>(by cases a),λo t a=>(by cases a),λb a=>(by cases a),by simp only[ud,Ϣ];omega,λa b=>(by cases b),by simp[ud],λx l a=>(by cases a),by simp[ud],by simp[ud]⟩⟩
def mem_workers {w:Og}:w∈s.workers↔w=(0,0)∨w=(1,0)∨((w.1=2∨w.1=3∨w.1=4)/\w.2∈subIds/\(qh s.lanes w.2).isSome=ό):=by
 unfold RmS.workers yp RmS.there;obtain⟨a,b⟩:=w;simp only[Ϟ,List.mem_flatMap,E8,C3,Ϻ,or_false,C8];constructor
 ·rintro(h | h | ⟨x,⟨d,H,G⟩,I⟩)
  ·exact ϑ h
  ·exact ϕ (ϑ h)
  ·rcases I with ⟨rfl,rfl⟩ | ⟨rfl,rfl⟩ | ⟨rfl,rfl⟩
   ·exact ϕ (ϕ ⟨ϑ rfl,d,G⟩)
   ·exact ϕ (ϕ ⟨ϕ (ϑ rfl),d,G⟩)
   ·exact ϕ (ϕ ⟨ϕ (ϕ rfl),d,G⟩)
 ·rintro(h | h | ⟨d,H,G⟩)
  ·exact ϑ h
  ·exact ϕ (ϑ h)
  ·refine ϕ (ϕ ⟨b,⟨H,H,G⟩, ?_⟩);rcases d with rfl | rfl | rfl
   ·exact ϑ ⟨rfl,rfl⟩
   ·exact ϕ (ϑ ⟨rfl,rfl⟩)
   ·exact ϕ (ϕ ⟨rfl,rfl⟩)
def Qc (L:List Int): ∀s:RmS,(L.foldl RmS.drain1 s).lanes=s.lanes/\(L.foldl RmS.drain1 s).strs=s.strs:=by
 induction L with
 | nil=>intro s;exact⟨rfl,rfl⟩
 | cons x L ih=>intro s;rw[A6,(ih _).1,(ih _).2];exact⟨rfl,rfl⟩
def QB [DecidableEq K] {k:K}: ∀{m:List (K×V)},k∈m.map Prod.fst-> ∃v,qh m k=ϊ v
 | [],h=>by simp at h
 | (a,b)::l,h=>by
  unfold qh;by_cases e:k=a
  ·exact⟨b,by rw[ϓ e]⟩
  ·rw[Ϗ e];refine QB ?_;rw[Ϛ] at h;exact(Ϟ.1 h).elim (λc=>ϧ c e) id
structure A22 where
 act:Int
 sub:Int
 pub:Int
 layer:Int
 b:List Int
 w:Og
 acc:Bool
 own:Int
 stamp:Int
 seq:Int
 s0:Int
 s1:Int
 s2:Int
def doR (s:RmS) (a:A22):RmS×Int×Bool:=
 if a.act=0 then ((s.arrive a.b).1,(s.arrive a.b).2,ύ) else if a.act=1 then ((s.pick a.w a.acc).1,0,(s.pick a.w a.acc).2) else if a.act=2 then (s.tick.1,s.tick.2,ύ)
 else if a.act=3 then ((s.publish a.pub a.s0 a.s1 a.s2).1,(s.publish a.pub a.s0 a.s1 a.s2).2,ύ) else if a.act=4 then ((s.join a.sub a.own a.seq a.stamp).1,(s.join a.sub a.own a.seq a.stamp).2,ύ)
 else if a.act=5 then ((s.subscribe a.sub a.pub a.layer).1,(s.subscribe a.sub a.pub a.layer).2,ύ) else if a.act=6 then ((s.want a.sub a.layer).1,(s.want a.sub a.layer).2,ύ)
 else if a.act=7 then ((s.leave a.sub).1,(s.leave a.sub).2,ύ) else if a.act=8 then (s.shut.1,s.shut.2,ύ) else (s,0,ύ)
def KZ (h:qV n s) (I:(s.tab.u.map Prod.fst).Nodup) (a:A22) (d:Byt a.b) (G:a.b.length<=400) (H: ∀v∈[a.s0,a.s1,a.s2],0<=v/\v<=4294967295):qV (n+1) (doR s a).1:=by
 unfold doR;split
 ·exact h.arrive d G
 ·split
  ·exact h.pick _ _
  ·split
   ·exact h.tick
   ·split
    ·exact h.publish _ _ _ _ H
    ·split
     ·exact h.join _ _ _ _
     ·split
      ·exact h.subscribe _ _ _
      ·split
       ·exact h.want _ _
       ·split
        ·exact h.leave I _
        ·split
         ·exact h.shut
         ·exact h.up
def Vn (s:RmS) (o:Og):(s.tick1 o).ret=s.ret/\(s.tick1 o).closed=s.closed:=by
 unfold RmS.tick1;cases qh s.strs o with
 | none=>exact⟨rfl,rfl⟩
 | some t=>simp only;split<;>exact⟨rfl,rfl⟩
def gJ: ∀(L:List Og) (s:RmS),(L.foldl RmS.tick1 s).ret=s.ret/\(L.foldl RmS.tick1 s).closed=s.closed
 | [],_=>⟨rfl,rfl⟩
 | o::L,s=>by
  rw[A6];exact⟨(gJ L _).1.trans (Vn s o).1,(gJ L _).2.trans (Vn s o).2⟩
def acP (P:List AcS) (i:Int):AcS:=P.getD i.toNat ac0
def SX (P:List AcS) (i j:Int):Prop:=i≠j/\((acP P i).o=(acP P j).o->(acP P i).num<(acP P j).num)
structure HJ (b:Jb):Prop where
 rise:b.holds.Pairwise λa c=>a.1<c.1
 over:b.begun=ό-> ∀h∈b.holds,b.hi<h.1
structure Jle (b b':Jb):Prop where
 hi:b.begun=ό->b'.begun=ό/\b.hi<=b'.hi
 sub: ∀h∈b'.holds,h∈b.holds
 ok:HJ b->HJ b'
def Jle.refl (b:Jb):Jle b b:=⟨λh=>⟨h,O4 _⟩,λ_ h=>h,λh=>h⟩
def Jle.trans {H b'':Jb} (h:HJ b->Jle b H) (k:HJ H->Jle H b'') (I:HJ b):Jle b b'':=
 have d:=h I;have G:=k (d.ok I)
 ⟨λe=>⟨(G.hi (d.hi e).1).1,Int.le_trans (d.hi e).2 (G.hi (d.hi e).1).2⟩,λx J=>d.sub x (G.sub x J),λe=>G.ok (d.ok e)⟩
def Rm (I:HJ b) {h:Hd} {T:List Hd} (d:b.holds=h::T):xT b={b with holds:=T,begun:=ό,hi:=h.1,bits:=(wK b h.1).2}:=by
 have H:(wK b h.1).1=h.1:=by
  unfold wK;split
  ·rename_i G;rw[QD];have:=I.over G h (by rw[d];exact ϟ);omega
  ·rfl
 unfold xT;rw[d];simp only[H]
def Rl (H:HJ b):Jle b (xT b):=by
 cases hb:b.holds with
 | nil=>
  have e:xT b=b:=by unfold xT;rw[hb]
  rw[e];exact Jle.refl b
 | cons h T=>
  have G:=H.rise;rw[hb,J2] at G;rw[Rm H hb];refine⟨λe=>⟨rfl, ?_⟩,λk d=>by rw[hb];exact ϛ _ d,λ_=>⟨G.2,λ_ k d=>G.1 k d⟩⟩;have:=H.over e h (by rw[hb];exact ϟ);show b.hi<=h.1;omega
def OY: ∀(n:Nat) {b:Jb},HJ b->Jle b (Qr n b)
 | 0,b,_=>Jle.refl b
 | n+1,_,ok=>Jle.trans (λh=>Rl h) (λh=>OY n h) ok
structure EO (s:RmS):Prop where
 ord: ∀x l,qh s.lanes x=ϊ l->(EI l).Pairwise (SX s.pks)
 inn: ∀x l,qh s.lanes x=ϊ l-> ∀i∈EI l,(0<=i/\i<(s.pks.length:Int))/\ ∀t,qh s.strs (acP s.pks i).o=ϊ t->t.buf.begun=ό/\(acP s.pks i).num<=t.buf.hi
 held: ∀o t,qh s.strs o=ϊ t->HJ t.buf/\ ∀h∈t.buf.holds,(0<=h.2.2/\h.2.2<(s.pks.length:Int))/\(acP s.pks h.2.2).o=o/\(acP s.pks h.2.2).num=h.1
 org: ∀i:Int,0<=i/\i<(s.pks.length:Int)->(qh s.strs (acP s.pks i).o).isSome=ό
structure Sqr (s s':RmS):Prop where
 pks:s'.pks=s.pks
 strs: ∀o t',qh s'.strs o=ϊ t'-> ∃t,qh s.strs o=ϊ t/\(HJ t.buf->Jle t.buf t'.buf)
 has: ∀o,(qh s.strs o).isSome=ό->(qh s'.strs o).isSome=ό
 lanes: ∀x l',qh s'.lanes x=ϊ l'->EI l'=[]∨ ∃l,qh s.lanes x=ϊ l/\List.Sublist (EI l') (EI l)
def Sqr.refl (s:RmS):Sqr s s:=⟨rfl,λo t h=>⟨t,h,λ_=>Jle.refl _⟩,λ_ h=>h,λx l h=>ϕ ⟨l,h,ϵ _⟩⟩
def Sqr.trans {s'':RmS} (h:Sqr s s') (k:Sqr s' s''):Sqr s s'':=by
 refine⟨k.pks.trans h.pks,λo t e=> ?_,λo e=>k.has o (h.has o e),λx l e=> ?_⟩
 ·obtain⟨t1,d,H⟩:=k.strs o t e;obtain⟨t2,G,I⟩:=h.strs o t1 d;exact⟨t2,G,λJ=>Jle.trans I H J⟩
 ·rcases k.lanes x l e with d | ⟨l1,d,s1⟩
  ·exact ϑ d
  ·rcases h.lanes x l1 d with G | ⟨l2,G,s2⟩
   ·exact ϑ (List.sublist_nil.1 (by rw[<-G];exact s1))
   ·exact ϕ ⟨l2,G,s1.trans s2⟩
def Sqr.same (d:s'.strs=s.strs) (G:s'.lanes=s.lanes) (H:s'.pks=s.pks):Sqr s s':=
 ⟨H,λo t h=>⟨t,by rw[<-d];exact h,λ_=>Jle.refl _⟩,λo h=>by rw[d];exact h,λx l h=>ϕ ⟨l,by rw[<-G];exact h,ϵ _⟩⟩
def Sqr.fold (d: ∀s a,Sqr s (f s a)): ∀(L:List α) (s:RmS),Sqr s (L.foldl f s)
 | [],s=>Sqr.refl s
 | a::L,s=>(d s a).trans (Sqr.fold d L (f s a))
def EO.by (h:EO s) (k:Sqr s s'):EO s':=by
 refine⟨λx l e=> ?_,λx l e i hi=> ?_,λo t e=> ?_,λi hi=> ?_⟩
 ·rw[k.pks];rcases k.lanes x l e with d | ⟨l1,d,s1⟩
  ·rw[d];exact List.Pairwise.nil
  ·exact(h.ord x l1 d).sublist s1
 ·rw[k.pks];rcases k.lanes x l e with d | ⟨l1,d,s1⟩
  ·rw[d] at hi;cases hi
  ·obtain⟨a,b⟩:=h.inn x l1 d i (s1.subset hi);refine⟨a,λt J=> ?_⟩;obtain⟨t1,G,j⟩:=k.strs _ t J;obtain⟨c,H⟩:=b t1 G;have j:=j (h.held _ t1 G).1;exact⟨(j.hi c).1,Int.le_trans H (j.hi c).2⟩
 ·obtain⟨t1,d,j⟩:=k.strs o t e;obtain⟨a,b⟩:=h.held o t1 d;have j:=j a;refine⟨j.ok a,λq I=> ?_⟩;rw[k.pks];exact b q (j.sub q I)
 ·rw[k.pks] at hi ⊢;exact k.has _ (h.org i hi)
def Sqr.lane {l':LnS} (I:qh s.lanes x=ϊ l) (J:List.Sublist (EI l') (EI l)) (G:s'.lanes=qx s.lanes x l') (d:s'.strs=s.strs) (H:s'.pks=s.pks):Sqr s s':=by
 refine⟨H,λo t h=>⟨t,by rw[<-d];exact h,λ_=>Jle.refl _⟩,λo h=>by rw[d];exact h,λy m h=> ?_⟩;rw[G,qF] at h;split at h
 ·rename_i e;injection h with e4
  subst e4;subst e;exact ϕ ⟨l,I,J⟩
 ·exact ϕ ⟨m,h,ϵ _⟩
def Sqr.str (J:qh s.strs o=ϊ t) (I:HJ t.buf->Jle t.buf t'.buf) (d:s'.strs=qx s.strs o t') (G:s'.lanes=s.lanes) (H:s'.pks=s.pks):Sqr s s':=by
 refine⟨H,λq u h=> ?_,λq h=> ?_,λx l h=>ϕ ⟨l,by rw[<-G];exact h,ϵ _⟩⟩
 ·rw[d,qF] at h;split at h
  ·rename_i e;injection h with e4
   subst e4;subst e;exact⟨t,J,I⟩
  ·exact⟨u,h,λ_=>Jle.refl _⟩
 ·rw[d,qF];split
  ·rfl
  ·exact h
def R7 (s:RmS) (o:Og):Sqr s (s.tick1 o):=by
 unfold RmS.tick1;cases ht:qh s.strs o with
 | none=>exact Sqr.refl s
 | some t=>
  simp only;split
  ·exact Sqr.str ht (t':={t with asks:=(vU s.cfg.space s.cfg.retry t.asks (s.wants o) s.clock).1}) (λ_=>Jle.refl _) rfl rfl rfl
  ·exact Sqr.str ht (t':={t with asks:=(vU s.cfg.space s.cfg.retry t.asks (s.wants o) s.clock).1}) (λ_=>Jle.refl _) rfl rfl rfl
def R9 (s:RmS) (x:Int):Sqr s (s.tell1 x):=by
 unfold RmS.tell1;cases qh s.tab.u x with
 | none=>exact Sqr.refl s
 | some sb=>
  simp only;split
  ·cases qh s.lanes x with
   | none=>exact Sqr.refl s
   | some l=>
    simp only;split
    ·cases ht:qh s.strs (sb.2.2,l.cur) with
     | none=>exact Sqr.refl s
     | some t=>exact Sqr.str ht (t':={t with askedOf:=ό}) (λ_=>Jle.refl _) rfl rfl rfl
    ·exact Sqr.refl s
  ·exact Sqr.refl s
def Ri (s:RmS) (b:List Int):Sqr s (s.tell b):=by
 unfold RmS.tell;split
 ·have d:Sqr s {s with cnt:={s.cnt with told:=s.cnt.told+1}}:=Sqr.same rfl rfl rfl;exact d.trans (Sqr.fold (f:=RmS.tellS) (λs G=>Sqr.fold (f:=RmS.tell1) R9 _ s) _ _)
 ·exact Sqr.same rfl rfl rfl
def RK (s:RmS) (x:Int):Sqr s (s.choose x):=by
 unfold RmS.choose;cases hl:qh s.lanes x with
 | none=>exact Sqr.refl s
 | some l=>exact Sqr.lane hl (OL l) rfl rfl rfl
def Rq (s:RmS) (x:Int):Sqr s (s.rewrite x):=by
 unfold RmS.rewrite;cases hl:qh s.lanes x with
 | none=>exact Sqr.refl s
 | some l=>exact Sqr.lane hl (Ow l) rfl rfl rfl
def OT (s:RmS) (x:Int) (acc:Bool):Sqr s (s.write x acc):=by
 unfold RmS.write;cases hl:qh s.lanes x with
 | none=>exact Sqr.refl s
 | some l=>exact Sqr.lane hl (Ot l acc) rfl rfl rfl
def RI (L:List Int): ∀s:RmS,(L.foldl RmS.drain1 s).pks=s.pks:=by
 induction L with
 | nil=>intro s;rfl
 | cons x L ih=>intro s;rw[A6,ih];rfl
def Oh (s:RmS) (o:Og):Sqr s (s.drainO o):=by
 unfold RmS.drainO;cases ht:qh s.strs o with
 | none=>exact Sqr.refl s
 | some t=>
  simp only;exact Sqr.str ht (t':={t with buf:=vP t.buf}) (λh=>OY _ h) (Qc _ _).2 (Qc _ _).1 (RI _ _)
def OZ (s:RmS) (w:Og):Sqr s (s.drain w):=by
 unfold RmS.drain;split
 ·exact Sqr.same rfl rfl rfl
 ·split
  ·exact Sqr.fold Oh _ s
  ·unfold RmS.drainL;cases hl:qh s.lanes w.2 with
   | none=>exact Sqr.refl s
   | some l=>exact Sqr.lane hl (OV l _) rfl rfl rfl
def Rn (s:RmS) (w:Og):Sqr s (s.endW w):=by
 unfold RmS.endW;split
 ·exact(OZ s w).trans (Sqr.same rfl rfl rfl)
 ·exact OZ s w
def NO (P:List AcS) (a:AcS) {i:Int} (h:0<=i/\i<(P.length:Int)):acP (P++[a]) i=acP P i:=by
 have d:i.toNat<P.length:=by omega
 unfold acP;rw[ϒ,ϒ,Ψ d]
def Rd (P:List AcS) (a:AcS):acP (P++[a]) (P.length:Int)=a:=by
 unfold acP;rw[A5,ϒ,ε (ϔ _),P2];rfl
def Tb (H:HJ b) (n G x:Int):HJ (jP b n G x).1/\(jP b n G x).1.begun=b.begun/\(jP b n G x).1.hi=b.hi/\ ∀h∈(jP b n G x).1.holds,h=(n,G,x)∨h∈b.holds:=by
 rcases Uz b n G x with ⟨h,_⟩ | ⟨h,J,I,_⟩
 ·rw[h];exact⟨H,rfl,rfl,λk d=>ϕ d⟩
 ·rw[h];refine⟨⟨ZU _ _ H.rise ((GF b n).1 J),λe k d=> ?_⟩,rfl,rfl,λk d=>(Xl _ _ _).1 d⟩;rcases(Xl _ _ _).1 d with rfl | d
  ·exact I e
  ·exact H.over e k d
def EO.accept (h:EO s) (o:Og) (p:Pk):EO (s.accept o p):=by
 unfold RmS.accept;cases ht:qh s.strs o with
 | none=>exact h
 | some t=>
  obtain⟨N,ae⟩:=h.held o t ht;obtain⟨ab,p2,ac,ad⟩:=Tb N (yV t p.sq) s.clock (s.pks.length:Int);have O: ∀G t',qh (qx s.strs o (Ye t p s.clock s.pks.length)) G=ϊ t'->(G=o/\t'=Ye t p s.clock s.pks.length)∨qh s.strs G=ϊ t':=λG t' e=>by
   rw[qF] at e;split at e
   ·rename_i d;injection e with H
    exact ϑ ⟨d,H.symm⟩
   ·exact ϕ e
  refine⟨λx l J=> ?_,λx l J i hi=> ?_,λG t' e=> ?_,λi hi=> ?_⟩
  ·refine List.Pairwise.imp_of_mem (λ{i j} hi N r=> ?_) (h.ord x l J);unfold SX;simp only;rw[NO _ _ (h.inn x l J i hi).1,NO _ _ (h.inn x l J j N).1];exact r
  ·obtain⟨a,b⟩:=h.inn x l J i hi;simp only;rw[NO _ _ a];refine⟨⟨a.1,by simp only[ώ,Ϙ,Ϣ];omega⟩,λt' e=> ?_⟩;rcases O _ t' e with ⟨d,H⟩ | d
   ·rw[H];obtain⟨c,Y⟩:=b t (by rw[d];exact ht);refine⟨?_, ?_⟩
    ·show (jP t.buf (yV t p.sq) s.clock (s.pks.length:Int)).1.begun=ό;rw[p2];exact c
    ·show _<=(jP t.buf (yV t p.sq) s.clock (s.pks.length:Int)).1.hi;rw[ac];exact Y
   ·exact b t' d
  ·have U: ∀q u,qh s.strs q=ϊ u-> ∀k∈u.buf.holds,(0<=k.2.2/\k.2.2<((s.pks++[(⟨o,yV t p.sq,p⟩:AcS)]).length:Int))/\(acP (s.pks++[⟨o,yV t p.sq,p⟩]) k.2.2).o=q/\(acP (s.pks++[⟨o,yV t p.sq,p⟩]) k.2.2).num=k.1:=λq u aa k I=>by
    obtain⟨a,b⟩:=(h.held q u aa).2 k I;rw[NO _ _ a];exact⟨⟨a.1,by simp only[ώ,Ϙ,Ϣ];omega⟩,b⟩
   rcases O G t' e with ⟨d,H⟩ | d
   ·rw[H,d];refine⟨ab,λk I=> ?_⟩;rcases ad k I with rfl | I
    ·simp only;rw[Rd];exact⟨⟨τ,by simp only[ώ,Ϙ,Ϣ];omega⟩,rfl,rfl⟩
    ·exact U o t ht k I
   ·exact⟨(h.held G t' d).1,U G t' d⟩
  ·simp only[ώ,Ϙ,Ϣ] at hi;simp only;rw[qF];by_cases e:i<(s.pks.length:Int)
   ·rw[NO _ _ ⟨hi.1,e⟩];split
    ·rfl
    ·exact h.org i ⟨hi.1,e⟩
   ·obtain rfl:i=(s.pks.length:Int):=by omega
    rw[Rd,ϓ rfl];rfl
def EO.puts (d:ItS) (L:List Int): ∀{s:RmS},L.Nodup->EO s->(0<=d.id/\d.id<(s.pks.length:Int))->(∀t,qh s.strs (acP s.pks d.id).o=ϊ t->t.buf.begun=ό/\(acP s.pks d.id).num<=t.buf.hi)->
  (∀x∈L,∀l,qh s.lanes x=ϊ l-> ∀j∈EI l,SX s.pks j d.id)->EO (L.foldl (RmS.put1 d) s):=by
 induction L with
 | nil=>intro s _ h _ _ _;exact h
 | cons x L ih=>
  intro s N h hi aa Y;rw[A6];rw[E0] at N;have af:EO (s.put1 d x)/\(s.put1 d x).pks=s.pks/\(s.put1 d x).strs=s.strs/\ ∀y,y≠x->qh (s.put1 d x).lanes y=qh s.lanes y:=by
   obtain⟨ag,ah⟩:=GY d x (s:=s);refine⟨?_,ah,ag,λy I=> ?_⟩
   ·unfold RmS.put1;split
    ·cases H:qh s.lanes x with
     | none=>exact h
     | some l=>
      have ae:(EI (xp l d).1).Pairwise (SX s.pks):=by
       refine T8 (Ra l d) ?_;rw[List.pairwise_append];exact⟨h.ord x l H,List.pairwise_singleton _ _,λa ab b U=>by rw[A8] at U;rw[U];exact Y x ϟ l H a ab⟩
      have key: ∀O,EO {s with lanes:=qx s.lanes x (xp l d).1,book:=O}:=λO=>by
       refine⟨λy m G=> ?_,λy m G i J=> ?_,h.held,h.org⟩
       ·simp only at G;rw[qF] at G;split at G
        ·injection G with e;rw[<-e];exact ae
        ·exact h.ord y m G
       ·simp only at G;rw[qF] at G;split at G
        ·injection G with e
         rw[<-e] at J;rcases Ϫ.1 ((Ra l d).subset J) with a | a
         ·exact h.inn x l H i a
         ·rw[A8] at a;rw[a];exact⟨hi,aa⟩
        ·exact h.inn y m G i J
      simp only;split
      ·exact key _
      ·exact key _
    ·exact h
   ·unfold RmS.put1;split
    ·cases H:qh s.lanes x with
     | none=>rfl
     | some l=>simp only;split<;>simp only<;>rw[qF,Ϗ I]
    ·rfl
  obtain⟨s1,s2,ai,aj⟩:=af;refine ih N.2 s1 (by rw[s2];exact hi) (by rw[s2,ai];exact aa) λy I l H j ac=> ?_
  rw[s2];have ad:y≠x:=λe=>N.1 (by rw[<-e];exact I)
  rw[aj y ad] at H;exact Y y (ϛ _ I) l H j ac
def EO.order (h:EO s):EO s.order:=by
 unfold RmS.order;cases hy:s.ready with
 | none=>exact h
 | some o=>
  simp only;cases ht:qh s.strs o with
  | none=>exact h
  | some t=>
   simp only;have G:xa t.buf s.clock=ό:=by
    have:=T4 hy;unfold RmS.readyAt at this;rw[ht] at this;exact this
   cases hb:t.buf.holds with
   | nil=>unfold xa at G;rw[hb] at G;cases G
   | cons hd T=>
    obtain⟨J,O⟩:=h.held o t ht;obtain⟨ac,H,I⟩:=O hd (by rw[hb];exact ϟ);have ab:yD t.buf s.clock=(xT t.buf,hd.1,hd.2.2,ό):=by unfold yD;rw[hb];simp only[G,C1]
    have aa:=Rm J hb;unfold RmS.orderAt;rw[ab];simp only;have N:EO {s with strs:=qx s.strs o {t with buf:=xT t.buf}}:=h.by (Sqr.str ht (t':={t with buf:=xT t.buf}) (λad=>Rl ad) rfl rfl rfl);refine EO.puts (s.item o hd.2.2) subIds ζ N ac (λu d=> ?_) (λx _ l Y j U=> ?_)
    ·have e:(acP s.pks hd.2.2).o=o:=H;simp only at d;rw[show (s.item o hd.2.2).id=hd.2.2 from rfl,e,qF,ϓ rfl] at d;injection d with d
     rw[<-d];simp only;rw[aa];refine⟨rfl, ?_⟩;show (acP s.pks hd.2.2).num<=hd.1;rw[I];exact O4 _
    ·obtain⟨a,b⟩:=h.inn x l Y j U;show j≠hd.2.2/\((acP s.pks j).o=(acP s.pks hd.2.2).o->(acP s.pks j).num<(acP s.pks hd.2.2).num);have key:(acP s.pks j).o=o->(acP s.pks j).num<hd.1:=λe=>by
      obtain⟨c,ae⟩:=b t (by rw[e];exact ht);have:=J.over c hd (by rw[hb];exact ϟ);omega
     refine⟨λe=> ?_,λe=> ?_⟩
     ·have:=key (by rw[e];exact H);rw[e,I] at this;omega
     ·rw[I];exact key (by rw[e];exact H)
def EO.publish (h:EO s) (N:Gm s) (O: ∀o t,qh s.strs o=ϊ t->o∈orgs) (p s0 s1 s2:Int):EO (s.publish p s0 s1 s2).1:=by
 unfold RmS.publish;split
 ·exact h
 ·split
  ·rename_i d;have I: ∀k,qh s.strs (p,k)=ϋ:=λk=>by
    cases G:qh s.strs (p,k) with
    | none=>rfl
    | some t=>
     have:=N.str p k (XD (O _ t G));rw[G] at this;unfold vA at d;split at d
     ·split at d
      ·simp at d
      ·split at d
       ·simp at d
       ·rename_i Y;exact ϧ this.symm Y
     ·simp at d
   have J: ∀o t,qh (qx (qx (qx s.strs (p,0) (uc s.cfg)) (p,1) (uc s.cfg)) (p,2) (uc s.cfg)) o=ϊ t->(t=uc s.cfg/\qh s.strs o=ϋ)∨qh s.strs o=ϊ t:=by
    intro o t a;rw[qF] at a;split at a
    ·rename_i H;injection a with e;exact ϑ ⟨e.symm,by rw[H];exact I _⟩
    ·rw[qF] at a;split at a
     ·rename_i H;injection a with e;exact ϑ ⟨e.symm,by rw[H];exact I _⟩
     ·rw[qF] at a;split at a
      ·rename_i H;injection a with e;exact ϑ ⟨e.symm,by rw[H];exact I _⟩
      ·exact ϕ a
   refine⟨h.ord,λx l U i hi=> ?_,λo t e=> ?_,λi hi=> ?_⟩
   ·obtain⟨a,b⟩:=h.inn x l U i hi;refine⟨a,λt e=> ?_⟩;rcases J _ t e with ⟨_,c⟩ | c
    ·have:=h.org i a;rw[c] at this;cases this
    ·exact b t c
   ·rcases J o t e with ⟨c,_⟩ | c
    ·rw[c];exact⟨⟨List.Pairwise.nil,λ_ k G=>by cases G⟩,λk G=>by cases G⟩
    ·exact h.held o t c
   ·have:=h.org i hi;simp only;rw[qF,qF,qF];split
    ·rfl
    ·split
     ·rfl
     ·split
      ·rfl
      ·exact this
  ·exact h
def Rg (s:RmS) (d:qh s.lanes x=ϊ l) (k:Int) {T:TS}:Sqr s {s with tab:=T,lanes:=qx s.lanes x (jO l k).1}:=
 Sqr.lane d (by rw[OJ];exact ϵ _) rfl rfl rfl
def EO.act (h:EO s) (H:qV n s) (a:A22):EO (doR s a).1:=by
 have I: ∀w acc,EO (s.stepW w acc):=λw acc=>by
  unfold RmS.stepW;split
  ·exact h.by (Rn s w)
  ·split
   ·unfold RmS.read;cases hq:s.queue with
    | nil=>exact h
    | cons b q=>
     simp only;have G:EO {s with queue:=q}:=h.by (Sqr.same rfl rfl rfl);split
     ·exact G.by (Ri _ b)
     ·unfold RmS.media;split
      ·cases qh ({s with queue:=q}:RmS).tab.o (jl b).1.sc with
       | none=>exact G.by (Sqr.same rfl rfl rfl)
       | some o=>exact G.accept o _
      ·exact G.by (Sqr.same rfl rfl rfl)
   ·split
    ·exact h.order
    ·split
     ·exact h.by (RK s _)
     ·split
      ·exact h.by (Rq s _)
      ·exact h.by (OT s _ _)
 unfold doR;split
 ·unfold RmS.arrive;split
  ·exact h
  ·split<;>exact h.by (Sqr.same rfl rfl rfl)
 ·split
  ·unfold RmS.pick;split
   ·exact I _ _
   ·exact h
  ·split
   ·unfold RmS.tick;split
    ·exact h
    ·have G:Sqr s {s with clock:=s.clock+1}:=Sqr.same rfl rfl rfl;exact h.by (G.trans (Sqr.fold (f:=RmS.tick1) R7 _ _))
   ·split
    ·exact h.publish H.tb H.ow.org _ _ _ _
    ·split
     ·unfold RmS.join;split
      ·exact h
      ·split
       ·refine h.by ⟨rfl,λo t e=>⟨t,e,λ_=>Jle.refl _⟩,λo e=>e,λy m d=> ?_⟩;simp only at d;rw[qF] at d;split at d
        ·injection d with e;rw[<-e];exact ϑ rfl
        ·exact ϕ ⟨m,d,ϵ _⟩
       ·exact h
     ·split
      ·unfold RmS.subscribe;split
       ·exact h
       ·split
        ·exact h
        ·split
         ·exact h
         ·split
          ·cases hl:qh s.lanes a.sub with
           | none=>exact h
           | some l=>exact h.by (Rg s hl _)
          ·exact h
      ·split
       ·unfold RmS.want;split
        ·exact h
        ·split
         ·exact h
         ·split
          ·exact h
          ·cases hl:qh s.lanes a.sub with
           | none=>exact h
           | some l=>exact h.by (Rg s hl _ (T:=s.tab))
       ·split
        ·unfold RmS.leave;split
         ·exact h
         ·split
          ·refine h.by ⟨rfl,λo t e=>⟨t,e,λ_=>Jle.refl _⟩,λo e=>e,λy m d=> ?_⟩;simp only at d;rw[uR] at d;split at d
           ·cases d
           ·exact ϕ ⟨m,d,ϵ _⟩
          ·exact h
        ·split
         ·unfold RmS.shut;split
          ·exact h
          ·exact h.by (Sqr.same rfl rfl rfl)
         ·exact h
def Rz (t:TS) (p s0 s1 s2:Int):(vA t p s0 s1 s2).1.u=t.u:=by
 unfold vA;split
 ·split
  ·rfl
  ·split
   ·rfl
   ·split<;>rfl
 ·rfl
def EO.start (c:CfR):EO (ud c):=⟨λx l h=>(by cases h),λx l h=>(by cases h),λo t h=>(by cases h),λi hi=>(by have:=hi.2;simp[ud] at this;omega)⟩
def KL [DecidableEq K] (k:K) (v:V): ∀(m:List (K×V)),(qh m k).isSome=ό->(qx m k v).map Prod.fst=m.map Prod.fst
 | [],h=>by cases h
 | (a,u)::m,h=>by
  unfold qh at h;unfold qx;by_cases c:k=a
  ·rw[ϓ c,Ϛ,Ϛ,c]
  ·rw[Ϗ c] at h ⊢;rw[Ϛ,Ϛ,KL k v m h]
def Ho (H:qI w0 w k s F):Calls prog 47 #[γ k.R] w λe w'=>e= .returned (ι s.shut.2)/\qI w0 w' k s.shut.1 F/\qw F w w':=by
 have J:=κ H;obtain⟨vp,ab,d⟩:=H.blk;have U:=β7 d;have aa:=yw d 7;obtain⟨Y,I⟩:=ν (s.closed);rw[I] at U;have O:=κ I;clear I H d;cases Y with
 | true=>
  have G:Hid (s.shut=(s,7)):=κ (by unfold RmS.shut;rw[ϓ O.o]);rw[G.o]
  go_enter func47,ntmps47
  go_wp2;go_ret;exact⟨rfl,J.o,qw.refl _ _⟩
 | false=>
  have G:Hid (s.shut=({s with closed:=ό},0)):=κ (by unfold RmS.shut;rw[Ϗ (by rw[O.o];decide)]);have N:=κ (J.o.cell 7 (μ ό) (s':={s with closed:=ό}) (λ_ _=>rfl) ⟨rfl,rfl,rfl,rfl,rfl,rfl,rfl,rfl,rfl⟩);rw[G.o]
  go_enter func47,ntmps47
  go_wp2;go_ret;exact⟨rfl,N.o.1,N.o.2⟩
def FF (h:qI w0 w k s F):Calls prog 77 #[γ k.R] w λe w'=>e= .returned (θ #[ι s.cnt.lost,ι s.cnt.malf,ι s.cnt.strange,ι s.cnt.told,ι s.cnt.acc])/\ql w w':=by
 obtain⟨vp,U,G⟩:=h.blk;have d:=κ (qs G (.cells #[ι 0,ι 0,ι 0,ι 0,ι 0] 99));have H:=β16 d.o;have I:=β17 d.o;have J:=β18 d.o;have N:=β19 d.o;have O:=β20 d.o;clear G h
 go_enter func77,ntmps77
 go_wp2
 (refine bodyPost_ret (v:= θ #[ι s.cnt.lost,ι s.cnt.malf,ι s.cnt.strange,ι s.cnt.told,ι s.cnt.acc]) ?rr1 rfl ?_;(case rr1=>(simp[results,results77,go_sem,H])))
 exact⟨rfl,ql.alloc _ _⟩
def qfq {B b:Nat} {m:Bk} (h:jy w B b m) (sub:Int) (O:m.length<=1000000):
  Calls prog 79 #[θ #[γ B],ι sub] w λe w'=>e= .returned (θ (xH sub m))/\ql w w':=by
 have I:=κ ((ql.alloc w (.cells #[γ B] 90)).al (.cells #[ι 0,ι 0,ι 0,ι 0,ι 0,ι 0,ι 0,ι 0,ι 0] 160));have H:=κ (F4 (h.more I.o) sub O);have J:Hid (((w.alloc (.cells #[γ B] 90)).alloc (.cells #[ι 0,ι 0,ι 0,ι 0,ι 0,ι 0,ι 0,ι 0,ι 0] 160)).heap[w.heap.size+1]? =ϊ (.cells #[ι 0,ι 0,ι 0,ι 0,ι 0,ι 0,ι 0,ι 0,ι 0] 160 (0,0))):=κ (qC η);clear h;unfold xH at H ⊢
 go_enter func79,ntmps79
 go_wp2_with (go_at_call 125;(go_call H.o as e ad ⟨rfl,G⟩;have N:=κ (I.o.trans G);have d:=κ (qq G J.o);have z0:=β0 d.o;have U:=β1 d.o;have Y:=β2 d.o;have z3:=β3 d.o;have z4:=β4 d.o;have z5:=β5 d.o;have aa:=β6 d.o;have ab:=β7 d.o;have ac:=β8 d.o;have ae:=yw d.o 0;have af:=yw d.o 1;have ag:=yw d.o 2;have ah:=yw d.o 3;have ai:=yw d.o 4;have aj:=yw d.o 5;have ak:=yw d.o 6;have am:=yw d.o 7;have an:=yw d.o 8;clear G))
 (refine bodyPost_ret (v:= θ (xH sub m)) ?rr2 rfl ?_;(case rr2=>(simp[results,results79,go_sem,z0,U,Y,z3,z4,z5,aa,ab,ac,xH])))
 exact⟨rfl,((((((((N.o.st (A9 _ _) _).st (A9 _ _) _).st (A9 _ _) _).st (A9 _ _) _).st (A9 _ _) _).st (A9 _ _) _).st (A9 _ _) _).st (A9 _ _) _).st (A9 _ _) _⟩
def RmX.laneDel (h:RmX T w0 w k vp vr s F) (m:jk w' k.ML (Value.int .i64) gj (yK k.LA x)) (a:jt (λb=>b=k.ML) w w'):
  qI w0 w' {k with LA:=yK k.LA x} {s with lanes:=Yh s.lanes x} F/\qw F w w':=by
 obtain⟨d,J⟩:=h.all .lns;have I:=J.keys;have H:=h.fresh;obtain⟨y,z⟩:=h.own (t:= .lns) (k':={k with LA:=yK k.LA x}) (vp':=vp) (vr':=vr) (s':={s with lanes:=Yh s.lanes x}) ⟨η,η⟩ (a.mono λb G=>by rw[G];exact d) ⟨(jd H η _).2 (ϑ d),m⟩
  (λu N U y=>by
   cases u<;>first | exact y | exact ϧ rfl N | skip
   rename_i O;unfold RmK.Holds at y ⊢;simp only;rw[gD I,uR];by_cases e:O=x
   ·rw[ϓ e,ϓ e];exact⟨λp l c=>(by cases c),rfl⟩
   ·rw[Ϗ e,Ϗ e]
    exact y)
 exact⟨y.at,z⟩
def KK {t:TS} (h:RmX T w0 w k vp vr s F) (b:jq w' k.tb k.ta k.tc k.td t) (a:jt (λx=>x=k.td) w w'):qI w0 w' k {s with tab:=t} F/\qw F w w':=
 h.table b (a.mono λ_ e=>ϕ (ϕ e))
def Lh (ar:qI w0 w k s F) (aj:s.book.length<=900000) (x:Int):
  Calls prog 42 #[γ k.R,ι x] w λe w'=> ∃k',k'.R=k.R/\e= .returned (ι (s.leave x).2)/\qI w0 w' k' (s.leave x).1 F/\qw F w w':=by
 obtain⟨T,vp,aC,aa⟩:=ar;have Y:=κ aa;have ap:=β7 aa.blk;have ay:=β11 aa.blk;obtain⟨aq,ae⟩:=ν (s.closed);rw[ae] at ap;have ab:=κ ae;have an:=κ aj;clear ae aa aj;cases aq with
 | true=>
  have H:Hid (s.leave x=(s,7)):=κ (by unfold RmS.leave;rw[ϓ ab.o]);rw[H.o]
  go_enter func42,ntmps42
  go_wp2;go_ret;exact⟨k,rfl,rfl,Y.o.at,qw.refl _ _⟩
 | false=>
  have U:=κ (qbC Y.o.tab x);obtain⟨ac,d⟩:=ν ((zW s.tab x).2);obtain⟨am,N⟩:=ν ((zW s.tab x).1);rw[d,N] at U;by_cases e0:ac=0
  ·subst e0;have H:Hid (s.leave x=({s with tab:=am,book:=vM s.book x 7,lanes:=Yh s.lanes x},0)):=κ (by unfold RmS.leave;rw[Ϗ (by rw[ab.o];decide),ϓ d,N]);rw[H.o];clear d N
   go_enter func42,ntmps42
   go_wp2_with (first | (go_at_call 65;(go_call U.o as e w1 ⟨rfl,J,I⟩;have G:=κ (KK Y.o J I);obtain⟨_,_,af⟩:=G.o.1.blk;have ax:=β0 af;clear J I af)) | (go_at_call 66;(go_call LJ G.o.1 x (by have:=an.o;show s.book.length<=1000000;omega) as e w2 ⟨⟨aA,rfl⟩,ad,t2,_⟩;obtain⟨ah,aB,aD,O⟩:=ad;have av:=κ O;have ah:=κ t2;have az:=β12 O.blk;obtain⟨w9,al,ak,ai,_⟩:=O.lnm.drop kE underlying94 x 0;have al: ∀ty,(Builtin.delete_ #[94,3] ty #[.map (ϊ k.ML),ι x]).run prog w2= .ok (.tuple #[]) w9:=λ_=>al;have ag:=κ (O.laneDel ak ai);clear ak ai O t2)))
   go_ret;exact⟨{k with LA:=yK k.LA x},rfl,rfl,ag.o.1,G.o.2.trans (ah.o.trans ag.o.2)⟩
  ·have aw:(ac != 0)=ό:=by simp[e0]
   have H:Hid (s.leave x=(s,ac)):=κ (by unfold RmS.leave;rw[Ϗ (by rw[ab.o];decide),d,Ϗ e0])
   have ao:Hid (am=s.tab):=κ (by
    rw[<-N];unfold zW at d ⊢;split
    ·rename_i au;rw[ϓ au] at d;split
     ·rename_i ad;rw[ϓ ad] at d;exact ϧ d.symm e0
     ·rfl
    ·rfl)
   rw[ao.o] at U;rw[H.o];clear d N e0
   go_enter func42,ntmps42
   go_wp2_with (go_at_call 65;(go_call U.o as e w1 ⟨rfl,J,I⟩;have G:=κ (KK Y.o J I);clear J I))
   go_ret;exact⟨k,rfl,rfl,G.o.1,G.o.2⟩
def Ak (h:RmX T w0 w k vp vr s F) (d:qh s.lanes x=ϊ l) (G:qh k.LA x=ϊ p) (n:Int):
  Calls prog 63 #[γ p,ι n] w λe w'=>e= .returned (ι (jO l n).2)/\qI w0 w' k {s with lanes:=qx s.lanes x (jO l n).1} F/\qw F w w':=by
 obtain⟨p2,H,I⟩:=h.laneAt d;obtain rfl:p2=p:=by rw[G] at H;injection H with e;exact e.symm
 refine(Ed I n).mono ?_;rintro e w' ⟨rfl,b,a⟩;exact⟨rfl,h.lanePut d G b a⟩
def Ms (au:qI w0 w k s F) (aj:zc s) (x n:Int):
  Calls prog 41 #[γ k.R,ι x,ι n] w λe w'=>e= .returned (ι (s.want x n).2)/\qI w0 w' k (s.want x n).1 F/\qw F w w':=by
 obtain⟨T,vp,aB,ab⟩:=au;have d:=κ ab;have am:=κ aj;have aq:=β7 ab.blk;have ax:=β11 ab.blk;obtain⟨ar,ac⟩:=ν (s.closed);rw[ac] at aq;have ag:=κ ac;clear ac ab aj;cases ar with
 | true=>
  have G:Hid (s.want x n=(s,7)):=κ (by unfold RmS.want;rw[ϓ ag.o]);rw[G.o]
  go_enter func41,ntmps41
  go_wp2;go_ret;exact⟨rfl,d.o.at,qw.refl _ _⟩
 | false=>
  have I:Hid (s.want x n=if (decide (0<=x/\x<6)&&jj n)=ύ then (s,1) else if ((qh s.tab.u x).getD sb0).2.1=ύ then (s,5) else (match qh s.lanes x with
   | none=>(s,0)
   | some l=>({s with lanes:=qx s.lanes x (jO l n).1},(jO l n).2))):=κ (by unfold RmS.want;rw[Ϗ (by rw[ag.o];decide)];rfl)
  obtain⟨aw,af⟩:=ν (jj n);have Y:=κ (λw=>Ub n w);rw[af] at Y I;by_cases h1:x<0
  ·have G:Hid (s.want x n=(s,1)):=κ (by rw[I.o,ϯ τ,ϓ (by rfl)]);rw[G.o]
   go_enter func41,ntmps41
   go_wp2;go_ret;exact⟨rfl,d.o.at,qw.refl _ _⟩
  ·by_cases h2:x<6
   ·cases aw with
    | false=>
     have G:Hid (s.want x n=(s,1)):=κ (by rw[I.o,M4,ϓ rfl]);rw[G.o];clear af
     go_enter func41,ntmps41
     go_wp2_with (go_at_call 60;(go_call Y.o _ as e w1 ⟨rfl,N⟩;obtain rfl:=N))
     go_ret;exact⟨rfl,d.o.at,qw.refl _ _⟩
    | true=>
     have O:Hid (s.want x n=if ((qh s.tab.u x).getD sb0).2.1=ύ then (s,5) else (match qh s.lanes x with
      | none=>(s,0)
      | some l=>({s with lanes:=qx s.lanes x (jO l n).1},(jO l n).2))):=κ (by rw[I.o,ϻ τ,Ϗ ζ])
     have U:=κ (LH d.o.tab x);obtain⟨av,ae⟩:=ν ((qh s.tab.u x).getD sb0);rw[ae] at U O;have an:=κ ae;clear af ae I;obtain⟨s1,s2,aA⟩:=av;simp only at U O;cases s2 with
     | false=>
      have G:Hid (s.want x n=(s,5)):=κ (by rw[O.o,ϓ rfl]);rw[G.o]
      go_enter func41,ntmps41
      go_wp2_with (first | (go_at_call 60;(go_call Y.o _ as e w1 ⟨rfl,N⟩;obtain rfl:=N)) | (go_at_call 64;(go_call U.o as e w2 ⟨rfl,H⟩;have J:=κ H;clear H)))
      go_ret;exact⟨rfl,d.o.at.on J.o,d.o.at.stay J.o⟩
     | true=>
      have ai:(qh s.lanes x).isSome=ό:=by
       rw[<-am.o.lane];have:=an.o;cases hu:qh s.tab.u x with
       | none=>rw[hu] at this;simp only[Option.getD_none] at this;unfold sb0 at this;injection this with _ q;injection q with q _;(try cases q)
       | some y=>rfl
      obtain⟨l,aa⟩:=Ϯ.1 ai;obtain⟨p,ad,_⟩:=d.o.laneAt aa;have G:Hid (s.want x n=({s with lanes:=qx s.lanes x (jO l n).1},(jO l n).2)):=κ (by rw[O.o,Ϗ ζ,aa]);have ao:=κ (λw' (m:ql w w')=>Ak (d.o.on m) aa ad n)
      have al:Hid (∀w',ql w w'->(Instr.lookup 94 (.map (ϊ k.ML)) (ι x) ύ).run prog w'= .ok (γ p) w'):=κ (λw' m=>by
       have:=xq (d.o.lnm.more m) x ύ;rw[ad] at this
       exact this)
      rw[G.o];clear ai aa ad
      go_enter func41,ntmps41
      go_wp2_with (first | (go_at_call 60;(go_call Y.o _ as e w1 ⟨rfl,N⟩;obtain rfl:=N)) | (go_at_call 64;(go_call U.o as e w2 ⟨rfl,H⟩;have J:=κ H;have ay:=β12 (qq H d.o.blk);have az:=al.o _ H;clear H)) | (go_at_call 63;(go_call ao.o _ J.o as e aC ⟨rfl,ah,t3⟩;have ak:=κ ah;have ap:=κ t3;clear ah t3)))
      go_ret;exact⟨rfl,ak.o,(d.o.at.stay J.o).trans ap.o⟩
   ·have G:Hid (s.want x n=(s,1)):=κ (by rw[I.o,ϯ τ,ϓ (by rfl)]);rw[G.o]
    go_enter func41,ntmps41
    go_wp2;go_ret;exact⟨rfl,d.o.at,qw.refl _ _⟩
def Vr {t:TS} {p:Int} (h: ¬(vL t x p).2=0):(vL t x p).1=t:=by
 unfold vL at h ⊢
 repeat' split
 all_goals first | rfl | skip
 rename_i d G H;rw[ϓ d,ϓ G,Ϗ H] at h;exact ϧ rfl h
def GC {t:TS} {p:Int} (h:qh t.u x=ϋ): ¬(vL t x p).2=0:=by
 unfold vL;rw[h];split<;>simp
def XM (aJ:qI w0 w k s F) (ax:zc s) (x p n:Int):
  Calls prog 40 #[γ k.R,ι x,ι p,ι n] w λe w'=>e= .returned (ι (s.subscribe x p n).2)/\qI w0 w' k (s.subscribe x p n).1 F/\qw F w w':=by
 obtain⟨T,vp,aQ,ao⟩:=aJ;have d:=κ ao;have aD:=κ ax;have aH:=β7 ao.blk;obtain⟨aI,an⟩:=ν (s.closed);rw[an] at aH;have ae:=κ an;clear an ao ax;cases aI with
 | true=>
  have G:Hid (s.subscribe x p n=(s,7)):=κ (by unfold RmS.subscribe;rw[ϓ ae.o]);rw[G.o]
  go_enter func40,ntmps40
  go_wp2;go_ret;exact⟨rfl,d.o.at,qw.refl _ _⟩
 | false=>
  obtain⟨aL,J⟩:=ν (jj n);have aa:=κ (λw=>Ub n w);rw[J] at aa;cases aL with
  | false=>
   have G:Hid (s.subscribe x p n=(s,1)):=κ (by unfold RmS.subscribe;rw[Ϗ (by rw[ae.o];decide),ϓ J]);rw[G.o];clear J
   go_enter func40,ntmps40
   go_wp2_with (go_at_call 60;(go_call aa.o _ as e w1 ⟨rfl,O⟩;obtain rfl:=O))
   go_ret;exact⟨rfl,d.o.at,qw.refl _ _⟩
  | true=>
   have aO:=β12 d.o.blk;have q:_:=xq d.o.lnm x ό;simp only[C1] at q;obtain⟨Y,H⟩:=ν ((vL s.tab x p).2);obtain⟨ay,ac⟩:=ν ((vL s.tab x p).1);cases hl:qh s.lanes x with
   | none=>
    have aw:=d.o.laneNo hl;rw[aw] at q
    replace q:(Instr.lookup 94 (.map (ϊ k.ML)) (ι x) ό).run prog w= .ok (.tuple #[π ϋ,ύ]) w:=q
    have am:qh s.tab.u x=ϋ:=by
     have:=aD.o.lane x;rw[hl] at this;cases am:qh s.tab.u x with
     | none=>rfl
     | some y=>rw[am] at this;cases this
    have al:=GC (p:=p) am;have ah:=Vr al
    have G:Hid (s.subscribe x p n=(s,Y)):=κ (by
     unfold RmS.subscribe JV
     rw[Ϗ (by rw[ae.o];decide),Ϗ (by rw[J];decide),hl,Ϗ ζ,Ϗ al,H])
    have U:=κ (Jf d.o.tab x p);rw[ah,H] at U;have aG:(Y != 0)=ό:=by rw[<-H];simp[al]
    have au:=β11 d.o.blk;rw[G.o];clear J hl aw am al ah H ac
    go_enter func40,ntmps40
    go_wp2_with (first | (go_at_call 60;(go_call aa.o _ as e w1 ⟨rfl,O⟩;obtain rfl:=O)) | (go_at_call 62;(go_call U.o as e w2 ⟨rfl,ar,aq⟩;have ap:=κ (KK d.o ar aq);clear ar aq)))
    go_ret;exact⟨rfl,ap.o.1,ap.o.2⟩
   | some l=>
    obtain⟨aK,ag,ak⟩:=d.o.laneAt hl;rw[ag] at q
    replace q:(Instr.lookup 94 (.map (ϊ k.ML)) (ι x) ό).run prog w= .ok (.tuple #[γ aK,ό]) w:=q
    have ai:=κ (JB ak);have aB:=κ hl;have aC:=κ ag;obtain⟨g,ab⟩:=ν (l.gone);rw[ab] at ai;cases g with
    | true=>
     have G:Hid (s.subscribe x p n=(s,5)):=κ (by
      unfold RmS.subscribe JV
      rw[Ϗ (by rw[ae.o];decide),Ϗ (by rw[J];decide),hl,ϓ ab])
     rw[G.o];clear J hl ag ak ab H ac
     go_enter func40,ntmps40
     go_wp2_with (first | (go_at_call 60;(go_call aa.o _ as e w1 ⟨rfl,O⟩;obtain rfl:=O)) | (go_at_call 61;(go_call ai.o as e w2 ⟨rfl,N⟩;have I:=κ N;clear N)))
     go_ret;exact⟨rfl,d.o.at.on I.o,d.o.at.stay I.o⟩
    | false=>
     have U:=κ (λw' (m:ql w w')=>Jf (d.o.tab.more m) x p);have aj:s.subscribe x p n=if Y=0 then ({s with tab:=ay,lanes:=qx s.lanes x (jO l n).1},(jO l n).2) else (s,Y):=by
      unfold RmS.subscribe JV;rw[Ϗ (by rw[ae.o];decide),Ϗ (by rw[J];decide),hl];simp only;rw[Ϗ (by rw[ab];decide),H,ac]
     by_cases e0:Y=0
     ·subst e0;have G:Hid (s.subscribe x p n=({s with tab:=ay,lanes:=qx s.lanes x (jO l n).1},(jO l n).2)):=κ (by rw[aj,ϓ rfl]);rw[H,ac] at U;rw[G.o];clear J hl ag ak ab H ac aj
      go_enter func40,ntmps40
      go_wp2_with (first | (go_at_call 60;(go_call aa.o _ as e w1 ⟨rfl,O⟩;obtain rfl:=O)) | (go_at_call 61;(go_call ai.o as e w2 ⟨rfl,N⟩;have I:=κ N;have au:=β11 (qq N d.o.blk);clear N)) | (go_at_call 62;(go_call U.o _ I.o as e aM ⟨rfl,af,a3⟩;have ad:=κ (KK (d.o.on I.o) af a3);obtain⟨aN,aP,aR,az⟩:=ad.o.1;have aE:=κ (Ak az aB.o aC.o n);clear af a3 az)) | (go_at_call 63;(go_call aE.o as e w4 ⟨rfl,av,t4⟩;have aA:=κ av;have aF:=κ t4;clear av t4)))
      go_ret;exact⟨rfl,aA.o,(d.o.at.stay I.o).trans (ad.o.2.trans aF.o)⟩
     ·have ah:=Vr (t:=s.tab) (x:=x) (p:=p) (by rw[H];exact e0);have G:Hid (s.subscribe x p n=(s,Y)):=κ (by rw[aj,Ϗ e0]);rw[H,ah] at U;have aG:(Y != 0)=ό:=by simp[e0]
      rw[G.o];clear J hl ag ak ab H ac aj ah e0
      go_enter func40,ntmps40
      go_wp2_with (first | (go_at_call 60;(go_call aa.o _ as e w1 ⟨rfl,O⟩;obtain rfl:=O)) | (go_at_call 61;(go_call ai.o as e w2 ⟨rfl,N⟩;have I:=κ N;have au:=β11 (qq N d.o.blk);clear N)) | (go_at_call 62;(go_call U.o _ I.o as e aM ⟨rfl,af,a3⟩;have ad:=κ (KK (d.o.on I.o) af a3);clear af a3)))
      go_ret;exact⟨rfl,ad.o.1,(d.o.at.stay I.o).trans ad.o.2⟩
def CF (bj:qI w0 w k s F) (G o2:Int) (aL: ∀o v,qh s.tab.s o=ϊ v->0<=v/\v<=4294967295) (bB:s.reqs.length<=1000000):
  Calls prog 74 #[γ k.R,θ #[ι G,ι o2]] w λe w'=>e= .returned (.tuple #[])/\qI w0 w' k (s.request (G,o2)) F/\qw F w w':=by
 obtain⟨T,vp,bD,h⟩:=bj;obtain⟨W1,af⟩:=ν (w.alloc (.cells #[ι G,ι o2] 111));have aq:Hid (ql w W1):=κ (by rw[<-af];exact ql.alloc _ _);have ax:Hid (W1.heap[w.heap.size]? =ϊ (.cells #[ι G,ι o2] 111 (0,0))):=κ (by rw[<-af];exact qj w _);have ab:=κ (h.on aq.o);have bh:=κ (h.at.stay aq.o);have az:=κ h.fresh;obtain⟨d,ah⟩:=ν ((qh s.tab.s (G,o2)).getD 0)
 have bd:Hid (0<=d/\d<=4294967295):=κ (by
  rw[<-ah];cases hm:qh s.tab.s (G,o2) with
  | none=>exact⟨ζ,ζ⟩
  | some v=>exact aL _ v hm)
 have bc:Hid (s.request (G,o2)={s with reqs:=s.reqs++[⟨(G,o2),s.clock,ug d⟩]}):=κ (by unfold RmS.request;rw[ah]);have aA:=κ (CC (ab.o.tab.more (ql.drewN W1 1)) (G,o2));rw[ah] at aA;clear ah aL h;have aY:=λ(x:qt W1)=>β11 (qq x.h ab.o.blk)
 have an:=λ(x:qt W1)=>qq x.h ax.o
 have aj:=λx=>β0 (an x);have ak:=λx=>β1 (an x);clear an
 go_enter func74,ntmps74
 go_upto_region 1 with fail
 (try rw[af])
 clear af;refine Qn W1 11 11 [5] ?_
 refine Qq5 ?_
 (refine Ql ?_;intro K H)
 (with_reducible refine aA.o.mono ?_)
 rintro e w2 ⟨rfl,aN⟩;have ae:Hid (ql W1 w2):=κ ((ql.drewN W1 1).trans aN);clear aN;refine⟨_,rfl,qk ae.o,H _ _ ?_⟩;clear H K
 iterate 5 (refine qE rfl rfl (qk ae.o) ?_;intro K H;go_big_quiet_op;go_big_quiet_on)
 refine qA ?_;clear aY aj ak;obtain⟨au,ag⟩:=ν ((w2.alloc (.cells #[ι 1,ω 0,ω d,(),()] 137)).alloc (.cells #[ι 2,ύ,ω 0,ω 0,ω 0,ω 0,ω 0,ω 0,(),ι 1,ω 0,ω d,(),(),υ 0,υ 0,()] 147));have aD:Hid (ql w2 au):=κ (by rw[<-ag];exact X6.al _);have bg:Hid (au.heap[w2.heap.size+1]? =ϊ (.cells #[ι 2,ύ,ω 0,ω 0,ω 0,ω 0,ω 0,ω 0,(),ι 1,ω 0,ω d,(),(),υ 0,υ 0,()] 147 (0,0))):=κ (by rw[<-ag];exact qC η);have aC:=κ (FL d bd.o 1 au bg.o)
 go_upto_region 4 with (first | (refine jU rfl 137 (.tmp 6) (.tmp 19) rfl w2 _ #[ι 1,ω 0,ω d,(),()] rfl rfl rfl ξ rfl rfl ?_) | (refine wpList_load_row rfl 137 (.tmp 6) rfl w2.heap.size rfl _ #[ι 1,ω 0,ω d,(),()] _ _ (heap_alloc_new w2 _) underlying137 rfl ξ ?_) | ((try rw[ag]);(go_at_call 70;(go_call aC.o as e w5 ⟨bE,bu,rfl,aw,aO,n5⟩;have aE:=κ aw;have be:Hid (ql w2 w5):=κ (aD.o.trans aO);have bf:=κ (λb I=>ϙ aD.o.size (n5 b I));obtain⟨aa,Y,rfl,_⟩:=id aw;clear aw aO n5))))
 clear ag aC;have ar:Hid (ql W1 w5):=κ (ae.o.trans be.o);have aV:=ab.o.on ar.o;have bi:=κ (bh.o.trans (ab.o.at.stay ar.o));have bA:=ab.o.more.size
 obtain⟨J,aW,aG,aH⟩:=aV.data (λb=>ug d≠[]/\(δ aa (ug d).length Y).ownBlock=ϊ b) (λb I=>by
  have bw:=bf.o b I.2;have bx:=ae.o.size;have bz:=aq.o.size
  exact⟨az.o b τ,τ,aE.o.old I.1 I.2,λhF=>by have:=(ab.o.law b hF).2.2;omega⟩)
 have U:=κ aW;have aB:=κ aG;clear aW aG aV;have aX:=κ (qq ar.o ax.o);obtain⟨O,_,N,rfl,rfl,_⟩:=(U.o.all .reqs).1.shape;obtain⟨_,aM⟩:=U.o.all .reqs;have am:=κ aM;clear aM;have aQ: ¬(δ O s.reqs.length N).ownBlock=ϊ k.R:=λe=>by have:=am.o _ e;rw[(U.o.all .room).1] at this;cases this
 have aK:J w.heap.size= .no∨J w.heap.size= .data:=by
  by_cases e:ug d≠[]/\(δ aa (ug d).length Y).ownBlock=ϊ w.heap.size
  ·exact ϕ (aB.o _ e)
  ·exact ϑ (by rw[aH _ e];exact az.o _ (ϔ _))
 have bs: ¬(δ O s.reqs.length N).ownBlock=ϊ w.heap.size:=λe=>by have:=am.o _ e;rcases aK with q | q<;>rw[q] at this<;>cases this
 clear aK aH;have ao:=λ(x:qz (λb=>(δ O s.reqs.length N).ownBlock=ϊ b) w5)=>x.h.blk U.o.blk aQ
 have aZ:=λx=>β15 (ao x);have ba:=λx=>β9 (ao x);clear ao
 have ap:=λ(x:qz (λb=>(δ O s.reqs.length N).ownBlock=ϊ b) w5)=>x.h.blk aX.o bs
 have aj:=λx=>β0 (ap x);have ak:=λx=>β1 (ap x);clear ap
 obtain⟨br,hi,bo,bp,bq⟩:=info_parts (P:=prog) (e:=259) (z:= θ #[ι 0,ι 0,ι 0,()]) (size:=4) (bytes:=48) ξ;refine QN (λb=>(δ O s.reqs.length N).ownBlock=ϊ b) w5 16 17 [12,13,14,16] ?_
 refine Nz ?_
 clear aZ ba aj ak
 (refine Ql ?_;intro K H)
 refine⟨qi (((jt.refl _ w5).drewN 1).alc _),H _ _ ?_⟩;clear H K;have bn: ∀g,(δ O s.reqs.length N).ownBlock=ϊ g->J g= .reqs:=am.o;have aT:=(((U.o.all .reqs).1.on (ql.drewN w5 1)).on (ql.alloc _ (.cells #[ι G,ι o2,ι s.clock,δ aa (ug d).length Y] 259))).other (D':=λb=>(J b≠ .data/\J b≠ .reqs)/\b<w5.heap.size) (λb I=>ϑ I.1);have aU:=(aE.o.keep (ql.drewN w5 1)).keep (ql.alloc _ (.cells #[ι G,ι o2,ι s.clock,δ aa (ug d).length Y] 259));have aS:jw RRq (λb=>((J b≠ .data/\J b≠ .reqs)/\b<w5.heap.size)∨(δ O s.reqs.length N).ownBlock=ϊ b) ((w5.drewN 1).alloc (.cells #[ι G,ι o2,ι s.clock,δ aa (ug d).length Y] 259)) [ι G,ι o2,ι s.clock,δ aa (ug d).length Y] ⟨(G,o2),s.clock,ug d⟩:=λw' a=>
  ⟨_,rfl,aU.off2 (λbm b I ad=>by
   have e:=aB.o b ⟨bm,I⟩;rcases ad with ad | ad
   ·exact ad.1.1 e
   ·rw[bn b ad] at e;cases e) a⟩
 refine jR rfl rfl ?_;intro K H
 refine zK (.tmp 31) (.tmp 39) 97 rfl 0 259 br (θ #[ι 0,ι 0,ι 0,()]) 4 48 underlying97 hi bo bp bq rfl ζ _ s.reqs rfl aT w5.heap.size [ι G,ι o2,ι s.clock,δ aa (ug d).length Y] ⟨(G,o2),s.clock,ug d⟩ rfl rfl (kX rfl) X8 aS (λb I=>by
  have:=I.2;have:=(((ql.drewN w5 1)).al (.cells #[ι G,ι o2,ι s.clock,δ aa (ug d).length Y] 259)).size
  omega) ζ τ (ϫ _) ?_
 intro bC w6 av aJ aI;have ac:Hid (jt (λb=>(δ O s.reqs.length N).ownBlock=ϊ b) w5 w6):=κ ((((jt.refl _ w5).drewN 1).alc _).trans (jt.of_grown aJ));obtain⟨aR,aP,aF,rfl,bk,bl⟩:=av.shape;have ai:=κ (ac.o.blk U.o.blk aQ);have bb:(J k.R≠ .data/\J k.R≠ .reqs)/\k.R<w5.heap.size:=⟨by rw[(U.o.all .room).1];exact⟨η,η⟩,U.o.lt⟩;have ay:=κ (U.o.reqsPut (y:=⟨(G,o2),s.clock,ug d⟩) ((ac.o.mono (S':=λb=>(δ O s.reqs.length N).ownBlock=ϊ b∨b=k.R) (λb I=>ϑ I)).set (p:=⟨k.R,15,ϋ⟩) (ϕ rfl) (δ aR aP aF)) (((ql.drewN w5 1)).al (.cells #[ι G,ι o2,ι s.clock,δ aa (ug d).length Y] 259)).size (av.step (jt.set (S:=λb=>(J b≠ .data/\J b≠ .reqs)/\b<w5.heap.size) (jt.refl _ _) (p:=⟨k.R,15,ϋ⟩) bb (δ aR aP aF))) aI (qB (qp ai.o 15 _) rfl));have bt:w6.cell? ⟨k.R,15,ϋ⟩=ϊ (δ O s.reqs.length N):=qa ai.o 15 rfl;have bv:w6.frozen? ⟨k.R,15,ϋ⟩=ύ:=yw ai.o 15;clear av aJ aI aT aS aU bk bl;refine⟨qi ac.o,H _ _ ?_⟩;clear H K;go_simp
 (refine Ql ?_;intro K H)
 refine⟨qi ac.o,H _ _ ?_⟩;clear H K
 iterate 1 (refine qE rfl rfl (qi ac.o) ?_;intro K H;go_big_quiet_op;go_big_quiet_on)
 (refine Qe ?_;intro K H)
 refine H _ _ ?_;clear H K;refine qA ?_;go_wp2
 (refine bodyPost_end (v:= .tuple #[]) ?re1 rfl ?_;(case re1=>simp[results,results74,go_sem]))
 exact⟨rfl,by rw[bc.o];exact ay.o.1,bi.o.trans ay.o.2⟩
def xw {P:Program} {o:Oper} {a:Act} {C:World->Prop} {K:Act->World->Prop} (G:TypeId) (x y:Operand) (J:o.op= .store G x y)
  (g:Nat) (t:TypeId) (c d:Array Value) (I:w.heap[g]? =ϊ (.cells c t (0,0))) (O:a.eval x= γ g) (U:a.eval y= θ d)
  (hi:(P.info? G).map (·.size)=ϊ d.size) (N:c.size=d.size) (H:d.all (·.oneCell')=ό)
  (h:C (w.setRow g d)/\K (a.put o.dst undef) (w.setRow g d)):jn P C o a w K:=by
 unfold jn execOp;simp only[J,O,U,Instr.storeAt,Instr.sureAddr,Sem.run_bind,Sem.run_pure,Result.andThen_ok,run_storeVar_row w g t G c d I hi N H];exact h
def ql.row (h:ql w w') {g:Nat} (G:w.heap.size<=g) (cs:Array Value):ql w (w'.setRow g cs):=jt.to_more h (jt.setRow w' g cs) (λb d=>by rw[d];exact G)
def Tk.subs {m:Nat} (h:Tk m d s s') (k:zc s):zc s':=⟨by rw[h.tab];exact k.keys,by rw[h.tab,h.lanes];exact k.lane,by rw[h.tab];exact k.few⟩
def qV.subs (h:qV n s) (d:n<=100000):zc s:=⟨h.tb.keys,h.tb.lane,ϙ h.num.few τ⟩
def Hn (aW:qI w0 w k s F) (bI:qV n s) (cv:n<=100000):
  Calls prog 46 #[γ k.R] w λe w'=>e= .returned (ι s.tick.2)/\qI w0 w' k s.tick.1 F/\qw F w w':=by
 have bm:=κ aW;have ao:=κ bI;obtain⟨vp,cD,aB⟩:=aW.blk;have bD:=β7 aB;have cp:=β9 aB;have cr:=yw aB 9;obtain⟨cq,bb⟩:=ν (s.closed);rw[bb] at bD;have bn:=κ bb;clear bb aB aW bI;cases cq with
 | true=>
  have aD:Hid (s.tick=(s,7)):=κ (by unfold RmS.tick;rw[ϓ bn.o]);rw[aD.o]
  go_enter func46,ntmps46
  go_wp2;go_ret;exact⟨rfl,bm.o,qw.refl _ _⟩
 | false=>
  obtain⟨cP,cQ⟩:=ao.o.num.clock;have aQ:=κ (bm.o.cell 9 (ι (s.clock+1)) (s':={s with clock:=s.clock+1}) (λ_ _=>rfl) ⟨rfl,rfl,rfl,rfl,rfl,rfl,rfl,rfl,rfl⟩);obtain⟨s1,aM⟩: ∃s1:RmS,{s with clock:=s.clock+1}=s1:=⟨_,rfl⟩;obtain⟨J,bc⟩:=ν (s.origins);have aD:Hid (s.tick=(J.foldl RmS.tick1 s1,0)):=κ (by unfold RmS.tick;rw[Ϗ (by rw[bn.o];decide),bc,aM])
  have ar:Hid (zc s1/\xY s1.cfg=ό/\(0<=s1.clock/\s1.clock<=100001)/\(∀o t,qh s1.strs o=ϊ t->0<=t.asks.tries/\t.asks.tries<=900000/\0<=t.asks.last/\t.asks.last<=100000)/\s1.reqs.length<=900000/\(∀o v,qh s1.tab.s o=ϊ v->0<=v/\v<=4294967295)/\s1.origins=J):=κ (by
   rw[<-aM];have ct:=ao.o.num.asks;have aL:=ao.o.num.reqs;have be:=ao.o.subs cv
   exact⟨⟨be.keys,be.lane,be.few⟩,ao.o.num.cfg,by simp only;omega,λo t az=>by have:=ct o t az;omega,by simp only;omega,ao.o.tb.src,bc⟩)
  obtain⟨W1,aY⟩:=ν (w.setCell ⟨k.R,9,ϋ⟩ (ι (s.clock+1)));rw[aM,aY] at aQ;obtain⟨T,vp,cD,bO⟩:=aQ.o.1;have bv:=κ bO;have bq:=κ bv.o.orgsF;rw[ar.o.2.2.2.2.2.2] at bq;clear bO aM bc
  go_enter func46,ntmps46
  go_wp2_with ((try rw[aY]);(go_at_call 71;(go_call bq.o as e w2 ⟨db,cap,Fn,rfl,bG,bW,bS,bL⟩;have cf:=κ bL;have cb:=κ bW.at;have ch:=κ bS;have cc:=κ bG;clear bL bW bS bG)))
  clear aY cp cr bD;have cj:=κ (aQ.o.2.trans (bv.o.at.stay ch.o));have da:=cc.o
  go_loopw [22] (λbh wr=> ∃j:Nat,j<=J.length/\bh= ι j/\qI w0 wr k ((J.take j).foldl RmS.tick1 s1) (Fn++F)/\qw (Fn++F) w2 wr) (λbh _=>J.length-(intOf bh).toNat)
  case atStart=>exact⟨0,τ,rfl,cb.o,qw.refl _ _⟩
  case round=>
   obtain⟨j,cZ,rfl,aL,az⟩:=hrel;have aS:=κ az;by_cases hlt:j<J.length
   ·have cu:(j:Int)<(J.length:Int):=by omega
    obtain⟨g,rfl,bC,c1⟩:=cf.o wr (λb aa=>az.2 b (by simp[aa])) j hlt;have bu:Hid (J.take (j+1)=J.take j++[J[j]]):=κ (by rw[B9,ϖ hlt];rfl);have am:=κ (ur (J.take j) s1);have bJ:(J.take j).length<=9:=by rw[Ϥ];omega
    have bp:=κ bJ;obtain⟨ts,bN⟩: ∃t,qh s1.strs J[j]=ϊ t:=yB (by rw[ar.o.2.2.2.2.2.2];exact ϥ hlt);generalize J[j]=o at *;generalize bM:(J.take j).foldl RmS.tick1 s1=sj at *;have bt:=κ bM;clear bM az bJ;obtain⟨t,bf⟩: ∃t,qh sj.strs o=ϊ t:=by
     have:=yt (am.o.strs o);rw[bN] at this;exact Ϯ.1 this
    have aE:=κ bf;have bH:zc sj/\(1<=sj.cfg.space/\sj.cfg.space<=sj.cfg.retry/\sj.cfg.retry<=1000)/\xz sj.clock/\(0<=t.asks.tries/\t.asks.tries<=1000000/\xz t.asks.last):=by
     obtain⟨cw,cx,dg,cy,dh,di,dj⟩:=ar.o;obtain⟨t0,a0,cn,co,ay⟩:=am.o.asks o t bf;obtain⟨bE,cS,cT,cU⟩:=cy o t0 a0;rw[ϓ bE] at co;have:=bp.o;refine⟨am.o.subs cw,by rw[am.o.cfg];exact(kF cx).2.2.1,by rw[am.o.clock];exact⟨τ,τ⟩,cn bE,τ, ?_⟩;rcases ay with ay | ay<;>rw[ay]<;>exact⟨τ,τ⟩
    have ak:=κ bH;have cg:Hid (∀o v,qh sj.tab.s o=ϊ v->0<=v/\v<=4294967295):=κ (by rw[am.o.tab];exact ar.o.2.2.2.2.2.1);have ce:Hid (sj.reqs.length<=1000000):=κ (by have:=am.o.reqs;have:=ar.o.2.2.2.2.1;have:=bp.o;omega);clear bH bN bf;obtain⟨I,o2⟩:=o;simp only at bC c1;obtain⟨ah,aK⟩:=ν (wr.alloc (.cells #[ι I,ι o2] 111));have bx:Hid (ql wr ah):=κ (by rw[<-aK];exact ql.alloc _ _);have aA:Hid (ah.heap[wr.heap.size]? =ϊ (.cells #[ι I,ι o2] 111 (0,0))):=κ (by rw[<-aK];exact qj wr _);have bA:=κ (aL.stay bx.o);obtain⟨cl,cC,cE,bP⟩:=aL;have aX:RmX cl w0 ah k cC cE sj ([wr.heap.size]++(Fn++F)):=bP.adds bx.o (λb aa=>by simp at aa;subst aa;exact⟨ϔ _,lt_of_block aA.o⟩);have aF:=κ aX;obtain⟨p,cI,v,bK,bQ⟩:=aX.strAt aE.o;have bw:=κ bQ;have bs:=κ bK;have bY:=λ(x:qt ah)=>β13 (qq x.h aF.o.blk)
    have aU:=λ(x:qt ah)=>qq x.h aA.o
    have bk:=λx=>β0 (aU x);have bl:=λx=>β1 (aU x);clear aU
    have bZ: ∀x:qt ah,(Instr.lookup 95 (.map (ϊ k.MS)) (θ #[ι I,ι o2]) ύ).run prog x.w'= .ok (γ p) x.w':=λx=>by
     have:=ya (aF.o.stm.more x.h) (I,o2) ύ;rw[bs.o] at this;exact this
    clear bP aX bQ bK
    go_upto_region 7 with fail
    (try rw[aK])
    clear aK bC c1;refine Qn ah 7 7 [] ?_
    refine Qq7 ?_
    refine qA ?_;clear bY bZ bk bl
    go_upto_region 8 with fail
    obtain⟨G,ba⟩:=ν (ah.drewN 1);have aw:Hid (ql ah G):=κ (by rw[<-ba];exact ql.drewN _ 1);have aG:=κ (aF.o.on aw.o);have ck:=κ (aF.o.at.stay aw.o)
    (try rw[ba])
    clear ba;obtain⟨bV,bg⟩:=ν (sj.wants (I,o2));have aT:=κ (λw' (m:ql G w')=>FA (aG.o.on m) ak.o.1 I o2 aE.o);rw[bg] at aT;obtain⟨cz,bd⟩:=ν (vU sj.cfg.space sj.cfg.retry t.asks bV sj.clock);have au:=κ (λw'=>Cy sj.cfg.space sj.cfg.retry t.asks bV sj.clock ak.o.2.1.1 ak.o.2.1.2.1 ak.o.2.1.2.2 ak.o.2.2.2.1 ak.o.2.2.2.2.1 ak.o.2.2.2.2.2 ak.o.2.2.1 w');rw[bd] at au;obtain⟨⟨Y,N,O,U⟩,bi⟩:=cz;simp only at au;have bo:Hid (sj.tick1 (I,o2)=if bi then ({sj with strs:=qx sj.strs (I,o2) {t with asks:=⟨Y,N,O,U⟩}}:RmS).request (I,o2) else {sj with strs:=qx sj.strs (I,o2) {t with asks:=⟨Y,N,O,U⟩}}):=κ (by unfold RmS.tick1;rw[aE.o];simp only[bg,bd]);clear bg bd
    go_cut [6,7] from 32 to 51 (λcA cB ac=> ∃A,cA= γ A/\cB= μ bi/\ac.heap[A]? =ϊ (.cells #[μ Y,N,ι O,ι U] 107 (0,0))/\ql G ac)
    case first=>
     have aH:=λ(x:qt G)=>qq x.h aG.o.blk
     have cF:=λx=>β4 (aH x);have cG:=λx=>β5 (aH x);have cH:=λx=>β9 (aH x);clear aH
     have av:=λ(x:qt G)=>qq (aw.o.trans x.h) bw.o.blk
     have cJ:=λx=>β3 (av x);have cK:=λx=>β4 (av x);have cL:=λx=>β5 (av x);have S6:=λx=>β6 (av x);clear av
     have aV:=λ(x:qt G)=>qq (aw.o.trans x.h) aA.o
     have bk:=λx=>β0 (aV x);have bl:=λx=>β1 (aV x);clear aV
     refine zB G 23 (.op 0 ύ (.op 1 ύ (.op 2 ύ (.op 3 ύ (.op 4 ύ (.op 5 ύ (.op 6 ύ (.op 7 ύ (.op 8 ύ (.op 9 ύ (.op 10 ύ (.op 12 ύ (.op 13 ύ (.op 14 ύ (.op 15 ύ (.br [11,20] λk=>if k=11 then .br [16,20] λk=>if k=16 then .op 17 ύ (.op 18 ύ (.op 19 ύ (.op 20 ό (.op 21 ό (.op 22 ύ (.done)))))) else .op 16 ό (.op 17 ύ (.op 18 ύ (.op 19 ύ (.op 21 ό (.op 22 ύ (.done)))))) else .op 11 ό (.op 16 ό (.op 17 ύ (.op 18 ύ (.op 19 ύ (.op 21 ό (.op 22 ύ (.done))))))))))))))))))))))) ξ ξ ?_
     repeat (first | (refine jg rfl rfl (qk ρ) ?_) | (refine qH rfl rfl (qk ρ) ?_;intro K d;go_big_quiet_op;go_big_quiet_on))
     refine wP ζ ?_ ?_
     ·(refine qO rfl rfl ?_;intro K d;unfold jn;go_simp)
      refine(aT.o _ (ql.drewN G 1)).mono ?_;rintro e w5 ⟨rfl,bT⟩;have ax:Hid (ql G w5):=κ ((ql.drewN G 1).trans bT);clear bT;refine⟨_,rfl,qk ax.o,d _ _ ?_⟩;clear d K;refine wP ζ ?_ ?_
      ·(refine qO rfl rfl ?_;intro K d;unfold jn;go_simp)
       refine(au.o _).mono ?_;rintro e ac ⟨rfl,ap⟩;have ag:=κ (ax.o.trans ap);clear ap;refine⟨_,rfl,qk ag.o,d _ _ ?_⟩;clear d K
       repeat (first | (refine jg rfl rfl (qk ag.o) ?_) | (refine qH rfl rfl (qk ag.o) ?_;intro K d;go_big_quiet_op;go_big_quiet_on))
       (refine qO rfl rfl ?_;intro K d;unfold jn;go_simp)
       refine⟨qk (ag.o.al _),d _ _ ?_⟩;clear d K;obtain⟨A,ab⟩:=ν (ac.heap.size);obtain⟨w9,aN⟩:=ν (ac.alloc (.cells #[μ ύ,ύ,ι 0,ι 0] 107));have aj:Hid (w9.heap[A]? =ϊ (.cells #[μ ύ,ύ,ι 0,ι 0] 107 (0,0))):=κ (by rw[<-aN,<-ab];exact qj ac _);have ad:Hid (ql G w9):=κ (by rw[<-aN];exact ag.o.al _);have aq:Hid (G.heap.size<=A):=κ (by rw[<-ab];exact ag.o.size)
       (try rw[aN])
       (try rw[ab])
       clear aN ab;refine qO rfl rfl ?_;intro K d;have H:=κ (ad.o.row aq.o #[μ Y,N,ι O,ι U]);have ae:=κ (jM aj.o #[μ Y,N,ι O,ι U]);refine xw 107 (.tmp 6) (.tmp 50) rfl A 107 _ #[μ Y,N,ι O,ι U] aj.o rfl rfl ξ rfl X8 ?_;refine⟨qk H.o,d _ _ ?_⟩;clear d K;go_simp
       repeat (first | (refine jg rfl rfl (qk H.o) ?_) | (refine qH rfl rfl (qk H.o) ?_;intro K d;go_big_quiet_op;go_big_quiet_on))
       refine zg ?_;go_wp2;go_meet;exact⟨A,rfl,rfl,ae.o,H.o⟩
      ·(refine qO rfl rfl ?_;intro K d;unfold jn;go_simp)
       refine⟨qk (ax.o.al _),d _ _ ?_⟩;clear d K;obtain⟨A,ab⟩:=ν (w5.heap.size);obtain⟨w8,ai⟩:=ν (w5.alloc (.cells #[μ ύ,ύ,ι 0,ι 0] 107));have aP:Hid (w8.heap[A]? =ϊ (.cells #[μ ύ,ύ,ι 0,ι 0] 107 (0,0))):=κ (by rw[<-ai,<-ab];exact qj w5 _);have aI:Hid (ql G w8):=κ (by rw[<-ai];exact ax.o.al _);have aq:Hid (G.heap.size<=A):=κ (by rw[<-ab];exact ax.o.size)
       (try rw[ai])
       (try rw[ab])
       clear ai ab
       (refine qO rfl rfl ?_;intro K d;unfold jn;go_simp)
       refine(au.o _).mono ?_;rintro e w9 ⟨rfl,an⟩;have ad:=κ (aI.o.trans an);have aj:=κ (qq an aP.o);clear an;refine⟨_,rfl,qk ad.o,d _ _ ?_⟩;clear d K
       repeat (first | (refine jg rfl rfl (qk ad.o) ?_) | (refine qH rfl rfl (qk ad.o) ?_;intro K d;go_big_quiet_op;go_big_quiet_on))
       refine qO rfl rfl ?_;intro K d;have H:=κ (ad.o.row aq.o #[μ Y,N,ι O,ι U]);have ae:=κ (jM aj.o #[μ Y,N,ι O,ι U]);refine xw 107 (.tmp 6) (.tmp 50) rfl A 107 _ #[μ Y,N,ι O,ι U] aj.o rfl rfl ξ rfl X8 ?_;refine⟨qk H.o,d _ _ ?_⟩;clear d K;go_simp
       repeat (first | (refine jg rfl rfl (qk H.o) ?_) | (refine qH rfl rfl (qk H.o) ?_;intro K d;go_big_quiet_op;go_big_quiet_on))
       refine zg ?_;go_wp2;go_meet;exact⟨A,rfl,rfl,ae.o,H.o⟩
     ·(refine qO rfl rfl ?_;intro K d;unfold jn;go_simp)
      refine⟨qk ((ql.drewN G 1).al _),d _ _ ?_⟩;clear d K;obtain⟨ac,aO⟩: ∃ac:World,G.drewN 1=ac:=⟨_,rfl⟩;have ag:Hid (ql G ac):=κ (by rw[<-aO];exact ql.drewN G 1)
      (try rw[aO])
      (try rw[show G.heap.size=ac.heap.size from by rw[<-aO];rfl])
      clear aO;obtain⟨A,ab⟩:=ν (ac.heap.size);obtain⟨w8,ai⟩:=ν (ac.alloc (.cells #[μ ύ,ύ,ι 0,ι 0] 107));have aP:Hid (w8.heap[A]? =ϊ (.cells #[μ ύ,ύ,ι 0,ι 0] 107 (0,0))):=κ (by rw[<-ai,<-ab];exact qj ac _);have aI:Hid (ql G w8):=κ (by rw[<-ai];exact ag.o.al _);have aq:Hid (G.heap.size<=A):=κ (by rw[<-ab];exact ag.o.size)
      (try rw[ai])
      (try rw[ab])
      clear ai ab
      (refine qO rfl rfl ?_;intro K d;unfold jn;go_simp)
      refine(aT.o _ aI.o).mono ?_;rintro e w6 ⟨rfl,ap⟩;have bz:=κ (aI.o.trans ap);have bX:=κ (qq ap aP.o);clear ap;refine⟨_,rfl,qk bz.o,d _ _ ?_⟩;clear d K
      (refine qO rfl rfl ?_;intro K d;unfold jn;go_simp)
      refine(au.o _).mono ?_;rintro e w9 ⟨rfl,an⟩;have ad:=κ (bz.o.trans an);have aj:=κ (qq an bX.o);clear an;refine⟨_,rfl,qk ad.o,d _ _ ?_⟩;clear d K
      repeat (first | (refine jg rfl rfl (qk ad.o) ?_) | (refine qH rfl rfl (qk ad.o) ?_;intro K d;go_big_quiet_op;go_big_quiet_on))
      refine qO rfl rfl ?_;intro K d;have H:=κ (ad.o.row aq.o #[μ Y,N,ι O,ι U]);have ae:=κ (jM aj.o #[μ Y,N,ι O,ι U]);refine xw 107 (.tmp 6) (.tmp 50) rfl A 107 _ #[μ Y,N,ι O,ι U] aj.o rfl rfl ξ rfl X8 ?_;refine⟨qk H.o,d _ _ ?_⟩;clear d K;go_simp
      repeat (first | (refine jg rfl rfl (qk H.o) ?_) | (refine qH rfl rfl (qk H.o) ?_;intro K d;go_big_quiet_op;go_big_quiet_on))
      refine zg ?_;go_wp2;go_meet;exact⟨A,rfl,rfl,ae.o,H.o⟩
    case rest=>
    obtain⟨A,rfl,rfl,bB,bR⟩:=hcut;have ae:=κ bB;have H:=κ bR;clear bB bR;have cm:=κ (aG.o.on H.o);have af:=κ (bw.o.on (aw.o.trans H.o));have a0:=β0 ae.o;have cN:=β1 ae.o;have cO:=β2 ae.o;have a3:=β3 ae.o;have dc:=β3 af.o.blk;have dd:=β4 af.o.blk;have de:=β5 af.o.blk;have df:=β6 af.o.blk;have cV:=yw af.o.blk 3;have cW:=yw af.o.blk 4;have cX:=yw af.o.blk 5;have cY:=yw af.o.blk 6;have aC:=κ (cm.o.strSet (t':={t with asks:=⟨Y,N,O,U⟩}) aE.o bs.o af.o ((((jt.set (S:=λb=>b=p) (jt.refl _ _) (p:=⟨p,3,ϋ⟩) rfl (μ Y)).set (p:=⟨p,4,ϋ⟩) rfl (μ N)).set (p:=⟨p,5,ϋ⟩) rfl (ι O)).set (p:=⟨p,6,ϋ⟩) rfl (ι U)) (qB (qp (qp (qp (qp af.o.blk 3 _) 4 _) 5 _) 6 _) rfl) rfl);have aJ:=κ (ck.o.trans ((aG.o.at.stay H.o).trans aC.o.2));obtain⟨cM,aZ⟩:=ν (((((wc.setCell ⟨p,3,ϋ⟩ (μ Y)).setCell ⟨p,4,ϋ⟩ (μ N)).setCell ⟨p,5,ϋ⟩ (ι O)).setCell ⟨p,6,ϋ⟩ (ι U)));rw[aZ] at aC aJ;have bj:=κ (aJ.o.blk η aA.o);have ay:=β0 bj.o;have cR:=β1 bj.o;cases bi with
    | false=>
     have aR:Hid (sj.tick1 (I,o2)={sj with strs:=qx sj.strs (I,o2) {t with asks:=⟨Y,N,O,U⟩}}):=κ (by rw[bo.o];rfl);go_wp2
     (try rw[aZ])
     go_roundw
     case rel=>exact⟨j+1,τ,by go_num,by rw[bu.o,Φ,bt.o];show qI w0 _ k (sj.tick1 (I,o2)) _;rw[aR.o];exact aC.o.1.sub (λb aa=>ϐ _ aa),aS.o.trans (bA.o.trans (aJ.o.sub (λb aa=>ϐ _ aa)))⟩
     case measure=>simp[intOf];omega
    | true=>
     have aR:Hid (sj.tick1 (I,o2)=({sj with strs:=qx sj.strs (I,o2) {t with asks:=⟨Y,N,O,U⟩}}:RmS).request (I,o2)):=κ (by rw[bo.o];rfl);have cd:=κ (CF aC.o.1 I o2 cg.o ce.o)
     go_wp2_with ((try rw[aZ]);(go_at_call 74;(go_call cd.o as e dk ⟨rfl,bF,bU⟩;have ca:=κ bF;have ci:=κ bU;clear bF bU)))
     go_roundw
     case rel=>exact⟨j+1,τ,by go_num,by rw[bu.o,Φ,bt.o];show qI w0 _ k (sj.tick1 (I,o2)) _;rw[aR.o];exact ca.o.sub (λb aa=>ϐ _ aa),aS.o.trans (bA.o.trans ((aJ.o.trans ci.o).sub (λb aa=>ϐ _ aa)))⟩
     case measure=>simp[intOf];omega
   ·obtain rfl:j=J.length:=by omega
    have cu: ¬(J.length:Int)<(J.length:Int):=by omega
    go_wp2;go_ret;exact⟨by rw[aD.o];rfl,by rw[aD.o];have:=aL;rw[Ϩ] at this;exact this.sub (λb aa=>ϐ _ aa),cj.o.trans (aS.o.sub (λb aa=>ϐ _ aa))⟩
section
open _root_.Go.Proofs.Tryz renaming func257->Ξa,ntmps257->Ξb
def Lv {l:List Int} (x:Int) (s:SlI .i64 w v l):Calls prog 257 #[v,ι x] w (Ge x l w):=Ψ8
end
def MJ {l:List Int} (x:Int) (s:SlI .i64 w v l):Calls prog 195 #[v,ι x] w λe w'=>e= .returned (μ (decide (x∈l)))/\w=w':=by
 go_enter func195,ntmps195
 go_wp2_with (go_at_call 257;(go_call Lv x s as e w2 ⟨n,d,H,rfl,rfl⟩;have G:=κ d;clear d))
 go_ret;exact⟨qZ (by rw[D2];simp only[C3];exact G.o),rfl⟩
def wkL (L M:List Int):List Og:=(0,0)::(1,0)::(M.filter λx=>decide (x∈L)).flatMap λx=>[(2,x),(3,x),(4,x)]
def Wy (L M:List Int):(wkL L M).length<=2+3* M.length:=by
 unfold wkL;have h: ∀d:List Int,(d.flatMap λx=>[((2,x):Og),(3,x),(4,x)]).length=3* d.length:=by
  intro d
  induction d with
  | nil=>rfl
  | cons x d ih=>rw[R4,ώ,ih,Ϙ,Ϙ,Ϙ,Ϙ,Ϣ];omega
 have:=C7 (λx=>decide (x∈L)) M;rw[Ϙ,Ϙ,h];omega
def Vk (L M:List Int) (x:Int):wkL L (M++[x])=wkL L M++if x∈L then [(2,x),(3,x),(4,x)] else []:=by
 unfold wkL;rw[G0,M9];by_cases h:x∈L
 ·rw[ϓ h];simp[h]
 ·rw[Ϗ h];simp[h]
def Vo {j:Nat} (h:j<6):subIds.take (j+1)=subIds.take j++[(j:Int)]:=by
 have:j=0∨j=1∨j=2∨j=3∨j=4∨j=5:=by omega
 rcases this with rfl | rfl | rfl | rfl | rfl | rfl<;>rfl
def Un (x:Int) (h:n<3):([(2,x),(3,x),(4,x)]:List Og).take (n+1)=([(2,x),(3,x),(4,x)]:List Og).take n++[(((2+n:Nat):Int),x)]:=by
 have:n=0∨n=1∨n=2:=by omega
 rcases this with rfl | rfl | rfl<;>rfl
def Aw (w:World):je 2 RO (λ_=>False) (w.alloc (.cells #[ι 0,ι 0,ι 1,ι 0] 157)) w.heap.size 157 (δ (ϊ ⟨w.heap.size,0,ϋ⟩) 2 2) [(0,0),(1,0)]:=
 ⟨⟨[ι 0,ι 0,ι 1,ι 0],⟨rfl,ϕ ⟨w.heap.size,2,_,rfl,ϔ _,qj w _,ϔ _,by unfold maxLen;omega,rfl,rfl⟩⟩,λi hi=>λw' _=>by
  have:i=0∨i=1:=by simp at hi;omega
  rcases this with rfl | rfl<;>rfl⟩,λb _ h=>h⟩
def KF {L:List Int} (s:SlI .i64 w v L):
  Calls prog 152 #[v] w λe w'=> ∃v',e= .returned v'/\je 2 RO (λ_=>False) w' w.heap.size 157 v' (yp L)/\ql w w':=by
 obtain⟨aB,hi,aw,ax,ay⟩:=info_parts (P:=prog) (e:=157) (z:= θ #[ι 0,ι 0]) (size:=2) (bytes:=16) ξ;have ak:=κ s;obtain⟨aI,cap,rfl,_⟩:=id s;have e0:yp L=wkL L (subIds.take 6):=rfl;rw[e0];have ao:=κ (ql.alloc w (.cells #[ι 0,ι 0,ι 1,ι 0] 157));have aq:=κ (Aw w);clear s e0
 go_enter func152,ntmps152
 go_wp2
 go_loopw [3,9] (λu ad wr=> ∃i:Nat,i<=6/\ad= ι i/\(∃J I H,u= δ J I H)/\je 2 RO (λ_=>False) wr w.heap.size 157 u (wkL L (subIds.take i))/\ql w wr) (λ_ ad _=>6-(intOf ad).toNat)
 case atStart=>exact⟨0,τ,rfl,⟨_,_,_,rfl⟩,aq.o,ao.o⟩
 case round=>
  obtain⟨i,aF,rfl,⟨J,I,H,rfl⟩,U,O⟩:=hrel;have G:=κ U;have d:=κ O;clear U O;by_cases hlt:i<6
  ·have au:(i:Int)<6:=by omega
   have ae:=κ (Vo hlt);have af:=κ (Wy L (subIds.take i));have an:Hid ((subIds.take i).length=i):=κ (by rw[Ϥ];show min i 6=i;omega);have aa:=κ (MJ (i:Int) (ak.o.keep d.o));obtain⟨c,N⟩:=ν (decide ((i:Int)∈L));rw[N] at aa;cases c with
   | false=>
    have Y:Hid (wkL L (subIds.take (i+1))=wkL L (subIds.take i)):=κ (by rw[ae.o,Vk,Ϗ (D8 N),Θ]);clear N
    go_wp2_with (go_at_call 195;(go_call aa.o as e w2 ⟨rfl,ab⟩;obtain rfl:=ab))
    go_roundw
    case rel=>exact⟨i+1,τ,by go_num,⟨_,_,_,rfl⟩,by rw[Y.o];exact G.o,d.o⟩
    case measure=>simp[intOf];omega
   | true=>
    have Y:Hid (wkL L (subIds.take (i+1))=wkL L (subIds.take i)++[(2,(i:Int)),(3,(i:Int)),(4,(i:Int))]):=κ (by rw[ae.o,Vk,ϓ (Ϧ N)]);clear N;obtain⟨B,ag⟩:=ν (wkL L (subIds.take i));rw[ag] at Y af G;clear ag
    go_wp2_with (go_at_call 195;(go_call aa.o as e w2 ⟨rfl,ab⟩;obtain rfl:=ab))
    go_loopw [3,5] (λu st wr=> ∃n:Nat,n<=3/\st= ι ((2+n:Nat):Int)/\(∃J I H,u= δ J I H)/\je 2 RO (λ_=>False) wr w.heap.size 157 u (B++([(2,(i:Int)),(3,(i:Int)),(4,(i:Int))]:List Og).take n)/\ql w wr) (λ_ st _=>5-(intOf st).toNat)
    case atStart=>exact⟨0,τ,rfl,⟨_,_,_,rfl⟩,by rw[U2,Θ];exact G.o,d.o⟩
    case round=>
     clear G d;obtain⟨n,aG,rfl,⟨J,I,H,rfl⟩,U,O⟩:=hrel;have G:=κ U;have d:=κ O;clear U O;by_cases hltn:n<3
     ·have av:((2+n:Nat):Int)<=4:=by omega
      have am:=κ (Un (i:Int) hltn);have ai:Hid (∀b,(δ J I H).ownBlock=ϊ b->w.heap.size<=b):=κ (λb h=>G.o.ge h);have aD:(B++([(2,(i:Int)),(3,(i:Int)),(4,(i:Int))]:List Og).take n).length<=23:=by
       have:=af.o;have:=an.o;rw[ώ,Ϥ];show B.length+min n 3<=23;omega
      have aj:=κ (G.o.on (ql.alloc wr (.cells #[ι ((2+n:Nat):Int),ι (i:Int)] 157)))
      go_wp2_with (at_builtin;(refine jN (R:=RO) (D:=λ_=>False) _ rfl (.tmp 20) (.tmp 24) 261 rfl w.heap.size 157 aB (θ #[ι 0,ι 0]) 2 16 underlying261 hi aw ax ay rfl ζ _ (B++([(2,(i:Int)),(3,(i:Int)),(4,(i:Int))]:List Og).take n) rfl aj.o wr.heap.size [ι ((2+n:Nat):Int),ι (i:Int)] (((2+n:Nat):Int),(i:Int)) rfl rfl (zS η) X8 (λw' _=>rfl) (λb h=>h.elim) ζ τ (d.o.al _).size ?_;intro v' w8 ac ah ar;have aC:Hid (ql w w8):=κ (Below.grown (d.o.al _) ah (d.o.al _).size ai.o);obtain⟨aJ,aH,aE,rfl,az,aA⟩:=ac.shape;have ap:=κ ac;clear ac ah ar az aA))
      go_roundw
      case rel=>exact⟨n+1,τ,by go_num,⟨_,_,_,rfl⟩,by rw[am.o,<-ϭ];exact ap.o,aC.o⟩
      case measure=>simp[intOf];omega
     ·obtain rfl:n=3:=by omega
      have av: ¬((2+3:Nat):Int)<=4:=by omega
      go_wp2;go_roundw
      case rel=>exact⟨i+1,τ,by go_num,⟨_,_,_,rfl⟩,by rw[Y.o];exact G.o,d.o⟩
      case measure=>simp[intOf];omega
  ·obtain rfl:i=6:=by omega
   have au: ¬((6:Nat):Int)<6:=by omega
   go_wp2;go_ret;exact⟨_,rfl,G.o,d.o⟩
def Gw:prog.eqGuardType prog.depth 157=ύ:=by kernel_rfl
def Ea (d G H I:Int) (w:World):(binOp .eql 157 (θ #[ι d,ι G]) (θ #[ι H,ι I])).run prog w= .ok (μ (decide (((d,G):Og)=(H,I)))) w:=by
 have h:(Op.equalIn 10000 157 (θ #[ι d,ι G]) (θ #[ι H,ι I])).run prog w= .ok (decide (((d,G):Og)=(H,I))) w:=ZX (d,G) (H,I) w;rw[run_eql_struct,h];rfl
def JQ (w:World) (oa:Option Addr) (L:List Og):Prop:=L.length<=maxLen/\ ∀w',ql w w'-> ∀i (hi:i<L.length),∃b,oa=ϊ ⟨b,0,ϋ⟩/\w'.cell? ⟨b,i* 2,ϋ⟩=ϊ (.int .i64 L[i].1)/\w'.cell? ⟨b,i* 2+1,ϋ⟩=ϊ (.int .i64 L[i].2)
def LP {base:Nat} (h:je 2 RO (λ_=>False) w base 157 v L): ∃oa cap,v= δ oa L.length cap/\JQ w oa L:=by
 obtain⟨⟨xs,d,r⟩,_⟩:=h;rcases id d.2 with ⟨rfl,H⟩ | ⟨b,cap,cur,rfl,J,I,N,O,_⟩
 ·exact⟨ϋ,0,by rw[H],by rw[H];exact ϫ _,λw' _ i hi=>by omega⟩
 ·refine⟨_,cap,rfl,τ,λw' m i hi=>⟨b,rfl, ?_, ?_⟩⟩
  ·have e:(xs.drop (i* 2)).take 2=[ι L[i].1,ι L[i].2]:=(r i hi).read;have e0:=Γ (λl:List Value=>l[0]?) e;simp at e0;rw[m.cells _ _ (lt_of_block I),d.cellAt _ τ];exact e0
  ·have e:(xs.drop (i* 2)).take 2=[ι L[i].1,ι L[i].2]:=(r i hi).read;have G:=Γ (λl:List Value=>l[1]?) e;simp at G;rw[m.cells _ _ (lt_of_block I),d.cellAt _ τ];exact G
def Lt {al:Option Addr} (d G:Int) (h:JQ w al L):
  Calls prog 220 #[δ al L.length cap,θ #[ι d,ι G]] w λe w'=> ∃n:Int,(0<=n↔(d,G)∈L)/\ -1<=n/\e= .returned (ι n)/\ql w w':=by
 obtain⟨az,aj⟩:=h;have N:=κ aj;unfold maxLen at az;obtain⟨W1,J⟩:=ν (w.alloc (.cells #[ι d,ι G] 157));have I:Hid (ql w W1):=κ (by rw[<-J];exact ql.alloc _ _);have an:Hid (W1.heap[w.heap.size]? =ϊ (.cells #[ι d,ι G] 157 (0,0))):=κ (by rw[<-J];exact qj w _);have aA:=Gw;clear aj
 go_enter func220,ntmps220
 go_wp2
 (try rw[J])
 clear J
 go_loopw [8] (λY wr=> ∃k:Nat,k<=L.length/\Y= ι k/\(d,G)∉L.take k/\ql W1 wr) (λY _=>L.length-(intOf Y).toNat)
 case atStart=>exact⟨0,τ,rfl,η,ql.refl _⟩
 case round=>
  obtain⟨j,aB,rfl,ai,ah⟩:=hrel;have ad:=κ ai;have H:=κ ah;clear ai ah;by_cases hlt:j<L.length
  ·have ay:(j:Int)<(L.length:Int):=by omega
   obtain⟨b,rfl,_,_⟩:=N.o _ (I.o.trans H.o) j hlt;have ak:L.take (j+1)=L.take j++[L[j]]:=ϡ hlt;have ar:=κ ak;have aq:=κ (ϥ hlt);have af: ∀x:qt wr,x.w'.cell? ⟨b,j* 2,ϋ⟩=ϊ (ι (L[j]).1):=λx=>by
    obtain⟨av,e,aw,_⟩:=N.o x.w' (I.o.trans (H.o.trans x.h)) j hlt;injection e with e
    injection e with e
    subst e;exact aw
   have ag: ∀x:qt wr,x.w'.cell? ⟨b,j* 2+1,ϋ⟩=ϊ (ι (L[j]).2):=λx=>by
    obtain⟨av,e,_,ax⟩:=N.o x.w' (I.o.trans (H.o.trans x.h)) j hlt;injection e with e
    injection e with e
    subst e;exact ax
   clear ak;generalize L[j]=y at *;obtain⟨aa,ab⟩:=y;simp only at af ag;have O:=λ(x:qt wr)=>qq (H.o.trans x.h) an.o
   have ao:=λx=>β0 (O x);have ap:=λx=>β1 (O x);clear O
   obtain⟨c,U⟩:=ν (decide (((d,G):Og)=(aa,ab)));have am:=λw=>Ea d G aa ab w
   rw[U] at am;have ac:=κ U;clear U
   go_upto_region 4 with fail
   refine Qn wr 6 6 [] ?_
   refine Qq6 ?_
   refine qA ?_;clear ao ap af ag am;have ae:=κ (ql.drewN wr 1);cases c with
   | true=>
    have e:((d,G):Og)=(aa,ab):=Ϧ ac.o;have au:Hid ((d,G)∈L):=κ (by rw[e];exact aq.o);clear e;go_wp2;go_ret;exact⟨j,⟨λ_=>au.o,λ_=>by omega⟩,τ,rfl,I.o.trans (H.o.trans ae.o)⟩
   | false=>
    go_wp2;go_roundw
    case rel=>exact⟨j+1,τ,by go_num,by rw[ar.o,Ϫ,A8];exact λh=>h.elim ad.o (D8 ac.o),H.o.trans ae.o⟩
    case measure=>simp[intOf];omega
  ·obtain rfl:j=L.length:=by omega
   have ay: ¬(L.length:Int)<(L.length:Int):=by omega
   go_wp2;go_ret;refine⟨-1,⟨λh=>by omega,λh=> ?_⟩,τ,rfl,I.o.trans H.o⟩;have:=ad.o;rw[Ϩ] at this;exact ϧ h this
def MH (d G:Int) (h:JQ w H L):
  Calls prog 172 #[δ H L.length cap,θ #[ι d,ι G]] w λe w'=>e= .returned (μ (decide ((d,G)∈L)))/\ql w w':=by
 have I:=κ (qj w (.cells #[ι d,ι G] 157));have aa:=β0 I.o;have ab:=β1 I.o;have O:=κ (Lt (w:=w.alloc (.cells #[ι d,ι G] 157)) (cap:=cap) d G (⟨h.1,λw' m=>h.2 w' (X6.trans m)⟩:JQ _ H L));clear h
 go_enter func172,ntmps172
 go_wp2_with (go_at_call 220;(go_call O.o as e w2 ⟨n,J,ac,rfl,N⟩;have U:=κ J;have Y:=κ N;clear J N))
 go_ret;exact⟨qZ (by rw[D2];simp only[C3];exact U.o),X6.trans Y.o⟩
def Hp (h:RmX T w0 w k vp vr s F):Calls prog 173 #[γ k.RQ] w λe w'=>e= .returned (ι s.queue.length)/\ql w w':=by
 obtain⟨f,Q,H,I,d,G,css,g,a⟩:=h.que;refine(Ng g).mono ?_;rintro e w' ⟨rfl,rfl⟩;exact⟨by rw[a.len],ql.refl _⟩
def NI (s:RmS) (i:Nat):List Int:=(subIds.take i).filter λx=>(qh s.lanes x).isSome
def Uk (s:RmS) (i:Nat):(NI s i).length<=6:=ϙ (C7 _ _) (by rw[Ϥ];show min i 6<=6;omega)
def je.low {R:qL α} {D:Nat->Prop} {base d e:Nat} {L:List α} (h:je n R D w base e v L) (N:d<=base):je n R D w d e v L:=by
 obtain⟨⟨xs,⟨G,H⟩,I⟩,J⟩:=h;refine⟨⟨xs,⟨G, ?_⟩,I⟩,J⟩;rcases H with h | ⟨g,cap,cur,e1,hg,rest⟩
 ·exact ϑ h
 ·exact ϕ ⟨g,cap,cur,e1,ϙ N hg,rest⟩
def qc8 (h:RmX T w0 w k vp vr s F):Calls prog 124 #[γ k.R] w λe w'=> ∃v,e= .returned v/\je 2 RO (λ_=>False) w' w.heap.size 157 v s.workers/\ql w w':=by
 obtain⟨aA,hi,ax,ay,az⟩:=info_parts (P:=prog) (e:=3) (z:= ι 0) (size:=1) (bytes:=8) ξ;have J:=κ h;have ab:=κ (Uk s);clear h
 go_enter func124,ntmps124
 go_wp2
 go_loopw [3,7] (λu O wr=> ∃i:Nat,i<=6/\O= ι i/\(∃ak aj ac,u= δ ak aj ac)/\wr.ownsRow w.heap.size 3 1 u (NI s i).length ((NI s i).map (Value.int .i64))/\ql w wr) (λ_ O _=>6-(intOf O).toNat)
 case atStart=>exact⟨0,τ,rfl,⟨_,_,_,rfl⟩,World.ownsRow_nil _ _ _ _,ql.refl _⟩
 case round=>
  obtain⟨i,aD,rfl,⟨ak,aj,ac,rfl⟩,ah,ag⟩:=hrel;have H:=κ ah;have d:=κ ag;clear ah ag;by_cases hlt:i<6
  ·have av:(i:Int)<6:=by omega
   have aa:=κ (Vo hlt);have aB:=β12 (qq d.o J.o.blk);have q:(Instr.lookup 94 (.map (ϊ k.ML)) (ι (i:Int)) ό).run prog wr= .ok (.tuple #[Gh (qh k.LA (i:Int)),μ (qh k.LA (i:Int)).isSome]) wr:=xq (J.o.lnm.more d.o) (i:Int) ό;have G:=(J.o.all (.lane (i:Int))).2;have aw:=ab.o i;cases hg:qh k.LA (i:Int) with
   | none=>
    rw[hg] at G q;have I:Hid (NI s (i+1)=NI s i):=κ (by unfold NI;rw[aa.o,G0,G2,Ϗ (by rw[<-G];decide)];simp);clear G hg;go_wp2;go_roundw
    case rel=>exact⟨i+1,τ,by go_num,⟨_,_,_,rfl⟩,by rw[I.o];exact H.o,d.o⟩
    case measure=>simp[intOf];omega
   | some p=>
    rw[hg] at G q;have I:Hid (NI s (i+1)=NI s i++[(i:Int)]):=κ (by unfold NI;rw[aa.o,G0,G2,ϓ (by rw[<-G];rfl)];simp);obtain⟨N,af⟩:=ν (NI s i);rw[af] at I H aw;clear G hg af
    go_wp2_with (at_builtin;(refine qU _ rfl (.tmp 20) (.tmp 22) 57 rfl w.heap.size 3 aA (ι 0) 8 underlying57 hi ax ay az rfl _ .i64 N rfl (H.o.alloc _) _ [(i:Int)] rfl (SlI.lit .i64 wr [(i:Int)] 3 _ 1 _ η rfl η η) (by simp;omega) ζ (by have:=d.o.size;simp;omega) ?_;intro aG w6 U ae _;have ao:=κ U;have an:Hid (ql w w6):=κ (Below.grown (d.o.al _) ae (d.o.al _).size (λb au=>jS H.o au));obtain⟨aE,aC,ad⟩:=xl U;rw[show (N++[(i:Int)]).length=N.length+1 from by simp] at ad;subst ad;clear U ae))
    go_roundw
    case rel=>exact⟨i+1,τ,by go_num,⟨_,_,_,rfl⟩,by rw[I.o];exact ao.o,an.o⟩
    case measure=>simp[intOf];omega
  ·obtain rfl:i=6:=by omega
   have av: ¬((6:Nat):Int)<6:=by omega
   have Y:=κ (KF (SlI.of_owns H.o (by have:=ab.o 6;omega)));have ap:Hid (yp (NI s 6)=s.workers):=κ rfl;rw[ap.o] at Y
   go_wp2_with (go_at_call 152;(go_call Y.o as e w2 ⟨aF,rfl,am,ai⟩;have aq:=κ (am.low d.o.size);have ar:=κ ai;clear am ai))
   go_ret;exact⟨_,rfl,aq.o,d.o.trans ar.o⟩
def Xr (h:RmX T w0 w k vp vr s F):Calls prog 124 #[γ k.R] w λe w'=> ∃d cap,e= .returned (δ d s.workers.length cap)/\JQ w' d s.workers/\ql w w':=by
 refine(qc8 h).mono ?_;rintro e w' ⟨v,rfl,G,H⟩;obtain⟨d,cap,rfl,I⟩:=LP G;exact⟨d,cap,rfl,I,H⟩
def LI (h:RmX T w0 w k vp vr s F) (aB:xz s.clock) (w1 w2:Int):
  Calls prog 145 #[γ k.R,θ #[ι w1,ι w2]] w λe w'=>e= .returned (μ (s.may (w1,w2)))/\ql w w':=by
 obtain⟨W1,U⟩:=ν (w.alloc (.cells #[ι w1,ι w2] 157));have M1:Hid (ql w W1):=κ (by rw[<-U];exact ql.alloc _ _);have aq:Hid (W1.heap[w.heap.size]? =ϊ (.cells #[ι w1,ι w2] 157 (0,0))):=κ (by rw[<-U];exact qj w _);have aw:=κ (h.on M1.o);have aO:=κ aB;obtain⟨c,Y⟩:=ν (decide ((w1,w2)∈s.workers));obtain⟨ay,am⟩:=ν (s.closed);have ae:Hid (s.may (w1,w2)=(c&&(if ay then !((qh s.ret (w1,w2)).getD ύ) else s.mayOpen (w1,w2)))):=κ (by unfold RmS.may;rw[Y,am]);have aM:=κ am;have aQ:=κ (λ(h:c=ό)=>Ϧ (Y.trans h));have av:=κ (Xr (aw.o.on (ql.drewN W1 1)));have ah:=λ(x:qt W1)=>qq x.h aq.o
 have ac:=λx=>β0 (ah x);have ad:=λx=>β1 (ah x);clear ah
 have ar:Hid (∀w' aa cap,JQ w' aa s.workers->Calls prog 172 #[δ aa s.workers.length cap,θ #[ι w1,ι w2]] w' λe w''=>e= .returned (μ c)/\ql w' w''):=κ (λw' aa cap aU=>by rw[<-Y];exact MH w1 w2 aU);clear h aB Y am
 go_enter func145,ntmps145
 go_upto_region 1 with fail
 (try rw[U])
 clear U;refine zC W1 5 [(0,ύ),(2,ύ),(1,ό),(3,ό),(4,ύ)] ξ ξ ?_
 refine Qq2 ?_
 (refine Ql ?_;intro K d)
 (with_reducible refine av.o.mono ?_)
 rintro e aZ ⟨aa,cap,rfl,aI,aJ⟩;have aS:=κ aI;have ax:Hid (ql W1 aZ):=κ ((ql.drewN W1 1).trans aJ);clear aI aJ;refine⟨_,rfl,qk ax.o,d _ _ ?_⟩;clear d K
 (refine Ql ?_;intro K d)
 go_call ar.o _ _ _ aS.o as e w4 ⟨rfl,aK⟩;have G:Hid (ql W1 w4):=κ (ax.o.trans aK);clear aK;refine⟨_,rfl,qk G.o,d _ _ ?_⟩;clear d K
 iterate 1 (refine qE rfl rfl (qk G.o) ?_;intro K d;go_big_quiet_op;go_big_quiet_on)
 refine qA ?_;clear ac ad av ar;have H:=κ (aw.o.on G.o);have ab:=κ (qq G.o aq.o);have aT:=β7 H.o.blk;rw[aM.o] at aT;cases c with
 | false=>
  go_wp2;go_ret;exact⟨by rw[ae.o];rfl,M1.o.trans G.o⟩
 | true=>
  have aR:=κ (mem_workers.1 (aQ.o rfl));cases ay with
  | true=>
   have O:Hid (s.may (w1,w2)= !((qh s.ret (w1,w2)).getD ύ)):=κ (by rw[ae.o];rfl);obtain⟨aX,ap⟩:=ν ((qh s.ret (w1,w2)).getD ύ);rw[ap] at O;have bb:=λ(x:qt w4)=>β8 (qq x.h H.o.blk)
   have ai:=λ(x:qt w4)=>qq x.h ab.o
   have ac:=λx=>β0 (ai x);have ad:=λx=>β1 (ai x);clear ai
   have bd: ∀x:qt w4,(Instr.lookup 91 (.map (ϊ k.M1)) (θ #[ι w1,ι w2]) ύ).run prog x.w'= .ok (μ aX) x.w':=λx=>by rw[<-ap];exact VH (H.o.retm.more x.h) (w1,w2)
   clear ap
   go_upto_region 4 with fail
   refine Qn w4 8 8 [] ?_
   refine Qq8 ?_
   refine qA ?_;go_wp2;go_ret;exact⟨by rw[O.o];rfl,(M1.o.trans G.o).dr 1⟩
  | false=>
   have O:Hid (s.may (w1,w2)=s.mayOpen (w1,w2)):=κ (by rw[ae.o];rfl);have be:=β0 ab.o;by_cases e0:w1=0
   ·subst e0;have I:Hid (s.may (0,w2)=decide (0<s.queue.length)):=κ (by rw[O.o];unfold RmS.mayOpen;rw[ϓ rfl]);have bf:=β10 H.o.blk;have aN:=κ (Hp H.o)
    go_wp2_with (go_at_call 173;(go_call aN.o as e w5 ⟨rfl,J⟩;have N:=κ J;clear J))
    go_ret;exact⟨qZ (by rw[I.o,D2]),M1.o.trans (G.o.trans N.o)⟩
   ·by_cases e1:w1=1
    ·subst e1;have I:Hid (s.may (1,w2)=s.ready.isSome):=κ (by rw[O.o];unfold RmS.mayOpen;rw[Ϗ η,ϓ rfl]);have ag:=κ (Al H.o aO.o);obtain⟨aW,aD⟩:=ν (s.readyO);obtain⟨rs,ao⟩:=ν (s.ready.isSome);rw[aD,ao] at ag;rw[ao] at I;clear aD ao;obtain⟨bj,bk⟩:=aW;simp only at ag
     go_wp2_with (go_at_call 174;(go_call ag.o as e w5 ⟨rfl,J⟩;have N:=κ J;clear J))
     go_ret;exact⟨by rw[I.o];rfl,(M1.o.trans (G.o.trans N.o)).al _⟩
    ·have aV:(w1=2∨w1=3∨w1=4)/\(qh s.lanes w2).isSome=ό:=by
      rcases aR.o with e | e | e
      ·injection e with e3 e4
       exact ϧ e3 e0
      ·injection e with e3 e4
       exact ϧ e3 e1
      ·exact⟨e.1,e.2.2⟩
     obtain⟨aG,aH⟩:=aV;obtain⟨l,an⟩:=Ϯ.1 aH;obtain⟨p,aC,az⟩:=H.o.laneAt an;have I:Hid (s.may (w1,w2)=vC l (xB w1)):=κ (by rw[O.o];unfold RmS.mayOpen;simp only[Ϗ e0,Ϗ e1,an]);have aF:xB w1=1∨xB w1=2∨xB w1=3:=by rcases aG with rfl | rfl | rfl<;>decide
     obtain⟨aY,aE⟩:=ν (xB w1);have au:=κ (λw'=>Z4 w1 w2 w');have af:=κ (λw' (m:ql w4 w')=>Iv (az.on m) (xB w1) aF);rw[aE] at au af I;obtain⟨bi,aA⟩:=ν (vC l aY);rw[aA] at af I;have aP:=κ aC;have bg:(w1==0)=ύ:=by simpa using e0
     have bh:(w1==1)=ύ:=by simpa using e1
     clear aE aA aF az an aH aG e0 e1 aC
     go_upto_region 11 with fail
     have ba:=λ(x:qt w4)=>β12 (qq x.h H.o.blk)
     have aj:=λ(x:qt w4)=>qq x.h ab.o
     have ac:=λx=>β0 (aj x);have ad:=λx=>β1 (aj x);clear aj
     have bc: ∀x:qt w4,(Instr.lookup 94 (.map (ϊ k.ML)) (ι w2) ύ).run prog x.w'= .ok (γ p) x.w':=λx=>by
      have:=xq (H.o.lnm.more x.h) w2 ύ;rw[aP.o] at this;exact this
     refine Qn w4 11 11 [8,9] ?_
     refine Qq8 ?_
     (refine Ql ?_;intro K d)
     go_call au.o _ as e w5 ⟨rfl,J⟩;have N:Hid (ql w4 w5):=κ ((ql.drewN w4 1).trans J);clear J;refine⟨_,rfl,qk N.o,d _ _ ?_⟩;clear d K
     (refine Ql ?_;intro K d)
     go_call af.o _ N.o as e w6 ⟨rfl,aL⟩;have ak:Hid (ql w4 w6):=κ (N.o.trans aL);clear aL;refine⟨_,rfl,qk ak.o,d _ _ ?_⟩;clear d K
     iterate 1 (refine qE rfl rfl (qk ak.o) ?_;intro K d;go_big_quiet_op;go_big_quiet_on)
     refine qA ?_;go_wp2;go_ret;exact⟨by rw[I.o];rfl,M1.o.trans (G.o.trans ak.o)⟩
def Ev (d:JOK b) (G:Int):JOK (yD b G).1:=by
 unfold yD;cases hb:b.holds with
 | nil=>exact d
 | cons h T=>
  simp only;split
  ·exact VL d hb
  ·exact d
def Ew (h:xa b d=ό): ∃x∈b.holds,(yD b d).2.2.1=x.2.2:=by
 unfold yD;cases hb:b.holds with
 | nil=>unfold xa at h;rw[hb] at h;cases h
 | cons x L=>
  simp only[h,C1];exact⟨x,ϟ,rfl⟩
def Fh (s:RmS) (o:Og) (i:Nat) {a:AcS} (h:s.pks.getD i ac0=a):s.item o (i:Int)=⟨i,o.2,zJ a.pk.pl,a.pk⟩:=by
 unfold RmS.item;rw[A5,h]
def GZ (d:ItS) (h: ∀y i,qh s.book (y,i)=ϊ 0->(qh s.lanes y).isSome=ό) (x:Int): ∀y i,qh (s.put1 d x).book (y,i)=ϊ 0->(qh (s.put1 d x).lanes y).isSome=ό:=by
 intro y i;unfold RmS.put1;split
 ·cases hl:qh s.lanes x with
  | none=>exact h y i
  | some l=>
   have G:(qh s.lanes y).isSome=ό->(qh (qx s.lanes x (xp l d).1) y).isSome=ό:=λe=>by
    rw[qF];split
    ·rfl
    ·exact e
   simp only;split
   ·intro e;refine G (h y i ?_);simp only at e;rw[ye _ _ _ _ ζ] at e;split at e
    ·cases e
    ·exact e
   ·exact λe=>G (h y i e)
 ·exact h y i
def ZD (d:ItS): ∀(L:List Int) {s:RmS},(∀y i,qh s.book (y,i)=ϊ 0->(qh s.lanes y).isSome=ό)-> ∀y i,qh (L.foldl (RmS.put1 d) s).book (y,i)=ϊ 0->(qh (L.foldl (RmS.put1 d) s).lanes y).isSome=ό
 | [],_,h=>h
 | x::L,_,h=>ZD d L (GZ d h x)
def Lg (dE:qI w0 w k s F) (bw:Ia s) (w1 w2:Int) (acc:Bool):
  Calls prog 149 #[γ k.R,θ #[ι w1,ι w2],acc] w λe w'=>e= .returned (.tuple #[])/\qI w0 w' k s.order F/\qw F w w':=by
 obtain⟨T,vp,dL,h⟩:=dE;obtain⟨W1,aH⟩:=ν (w.alloc (.cells #[ι w1,ι w2] 157));have bR:Hid (ql w W1):=κ (by rw[<-aH];exact ql.alloc _ _);have aE:=κ (h.on bR.o);have bT:=κ (h.at.stay bR.o);have aN:=κ bw;have aT:=κ (Al aE.o bw.clock);clear h bw;obtain⟨cy,bc⟩:=ν (s.ready);have aR:=κ bc;have e0:s.readyO=cy.getD (0,0):=by unfold RmS.readyO;rw[bc]
 rw[bc,e0] at aT;clear bc e0;cases cy with
 | none=>
  have bk:Hid (s.order=s):=κ (by unfold RmS.order;rw[aR.o])
  go_enter func149,ntmps149
  go_upto_region 1 with fail
  (try rw[aH])
  clear aH
  go_wp2_with (go_at_call 174;(go_call aT.o as e G ⟨rfl,aL⟩;have aF:=κ aL;clear aL))
  (refine bodyPost_ret (v:= .tuple #[]) ?re2 rfl ?_;(case re2=>simp[results,results149,go_sem]))
  exact⟨rfl,by rw[bk.o];exact(aE.o.on (aF.o.al _)).at,bT.o.trans (aE.o.at.stay (aF.o.al _))⟩
 | some o=>
  obtain⟨ao,o2⟩:=o;simp only[ϰ,Option.isSome_some] at aT;have ca:=Q7 aR.o;have bb:s.readyAt (ao,o2)=ό:=T4 aR.o;obtain⟨t,aw⟩:=yB ca;have cf:xa t.buf s.clock=ό:=by
   unfold RmS.readyAt at bb;rw[aw] at bb;exact bb
  have aU:=κ aw;have cV:=κ cf;clear ca bb aw cf;have bk:Hid (s.order=s.orderAt (ao,o2) t):=κ (by unfold RmS.order;rw[aR.o];simp only[aU.o])
  go_enter func149,ntmps149
  go_upto_region 1 with fail
  (try rw[aH])
  clear aH
  go_upto_region 3 with (go_at_call 174;(go_call aT.o as e G ⟨rfl,aL⟩;have aF:=κ aL;clear aL))
  obtain⟨Y,aX⟩:=ν (G.alloc (.cells #[ι ao,ι o2] 111));have bS:Hid (ql W1 Y):=κ (by rw[<-aX];exact aF.o.al _);have bg:Hid (Y.heap[G.heap.size]? =ϊ (.cells #[ι ao,ι o2] 111 (0,0))):=κ (by rw[<-aX];exact qj _ _);have ch:W1.heap.size<=G.heap.size:=aF.o.size;have am:RmX T w0 Y k vp dL s ([G.heap.size]++F):=aE.o.adds bS.o (λb ac=>by simp at ac;subst ac;exact⟨ch,qn bg.o⟩)
  (try rw[aX])
  clear aX;have aV:=κ am;obtain⟨bE,ab,vb,cd,ar⟩:=am.strAt aU.o;have bP:=κ cd;have au:=κ ar;have cr:k.R≠ab:=λe=>by have:=ar.nb;rw[<-e,(am.all .room).1] at this;cases this
  have ct: ¬vb.ownBlock=ϊ k.R:=λe=>by have:=(ar.nv _ e).1;rw[(am.all .room).1] at this;cases this
  have cq: ¬(k.R=ab∨vb.ownBlock=ϊ k.R):=λe=>e.elim cr ct
  have cl:k.MS≠ab:=λe=>by have:=ar.nb;rw[<-e,(am.all .sts).1] at this;cases this
  have cm: ¬vb.ownBlock=ϊ k.MS:=λe=>by have:=(ar.nv _ e).1;rw[(am.all .sts).1] at this;cases this
  have ck: ¬(k.MS=ab∨vb.ownBlock=ϊ k.MS):=λe=>e.elim cl cm
  have co:G.heap.size≠ab:=λe=>by have:=ar.nb;rw[<-e,(am.law G.heap.size η).1] at this;cases this
  have cp: ¬vb.ownBlock=ϊ G.heap.size:=λe=>by have:=(ar.nv _ e).1;rw[(am.law G.heap.size η).1] at this;cases this
  have cn: ¬(G.heap.size=ab∨vb.ownBlock=ϊ G.heap.size):=λe=>e.elim co cp
  have cu: ¬(bE=ab∨vb.ownBlock=ϊ bE):=λe=>e.elim (λe=>au.o.ne e) (λe=>(au.o.nv _ e).2 rfl)
  have bp:=λ(x:qz (λb=>b=ab∨vb.ownBlock=ϊ b) Y)=>x.h.blk aV.o.blk cq
  have cI:=λx=>β13 (bp x);have cJ:=λx=>β9 (bp x);clear bp
  have bq:=λ(x:qz (λb=>b=ab∨vb.ownBlock=ϊ b) Y)=>x.h.blk bg.o cn
  have cL:=λx=>β0 (bq x);have cM:=λx=>β1 (bq x);clear bq
  have cK:=λ(x:qz (λb=>b=ab∨vb.ownBlock=ϊ b) Y)=>β0 (x.h.blk au.o.blk cu)
  have bh: ∀x:qz (λb=>b=ab∨vb.ownBlock=ϊ b) Y,(Instr.lookup 95 (.map (ϊ k.MS)) (θ #[ι ao,ι o2]) ύ).run prog x.w'= .ok (γ bE) x.w':=λx=>by
   have:=ya (aV.o.stm.away x.h ck) (ao,o2) ύ;rw[bP.o] at this;exact this
  clear am cd ar ch cr ct cl cm co cp;refine QN (λb=>b=ab∨vb.ownBlock=ϊ b) Y 21 21 [13] ?_
  refine NE ?_
  (refine Ql ?_;intro K d)
  obtain⟨id,aZ⟩:=ν ((yD t.buf s.clock).2.2.1);have cP:=κ aZ
  have bN:Hid (0<=id/\id<(s.pks.length:Int)):=κ (by
   obtain⟨x,dJ,e⟩:=Ew cV.o;rw[<-aZ,e]
   exact aN.o.ids _ _ aU.o x dJ)
  obtain⟨H,dF⟩:=A4 bN.o.1;subst dF;have dG:H<s.pks.length:=by have:=bN.o.2;omega
  have aQ:=κ (FJ t.buf au.o.ok ab vb s.clock aN.o.clock _ (au.o.buf.on (ql.drewN Y 1)));rw[aZ] at aQ;clear aZ
  (with_reducible refine aQ.o.mono ?_)
  rintro e w5 ⟨rfl,v5,st⟩;have bI:Hid (jt (λb=>b=ab∨vb.ownBlock=ϊ b) Y w5):=κ (((jt.refl _ Y).drewN 1).trans st.away);have aA:=κ ((aV.o.on (ql.drewN Y 1)).strBuf aU.o bP.o (au.o.on (ql.drewN Y 1)) st (Ev au.o.ok s.clock));have bs:=κ ((aV.o.at.stay (ql.drewN Y 1)).trans aA.o.2);clear st;refine⟨_,rfl,qi bI.o,d _ _ ?_⟩;clear d K
  iterate 7 (refine qE rfl rfl (qi bI.o) ?_;intro K d;go_big_quiet_op;go_big_quiet_on)
  refine qA ?_;clear cI cJ cL cM cK bh cq ck cn cu;obtain⟨ad,bd⟩: ∃ad:RmS,{s with strs:=qx s.strs (ao,o2) {t with buf:=(yD t.buf s.clock).1}}=ad:=⟨_,rfl⟩;have bQ:=κ bd;rw[bd] at aA;have aO:Hid (ad.pks=s.pks):=κ (by rw[<-bd]);have bv:H<ad.pks.length:=by rw[aO.o];exact dG
  obtain⟨dM,dT,dV,bG⟩:=aA.o.1;obtain⟨g,cap,os,N,O,J,ke,I,rfl,dS,dP,bX,cg⟩:=bG.pkRow bv;have dA:=κ bG;have aS:=κ cg;have bM:=κ bX;have dR:(ad.pks.length:Int)=s.pks.length:=by rw[aO.o]
  clear bd bG cg bX;obtain⟨a,aI⟩:=ν (ad.pks[H]);have bL:=κ aI;simp only[aI] at aS bM;clear aI;have dC:=β14 dA.o.blk
  have cU:Hid (w5.rangeAt g (H* 13+3) (Γh a.pk os J N ke O I)):=κ (λj v dI=>by
   rw[N2]
   exact bM.o (3+j) v (by rw[X4];exact dI))
  go_upto_region 5 with (refine wpList_load_mid rfl 133 (.tmp 48) rfl g (H* 13+3) rfl (Γh a.pk os J N ke O I) _ cU.o underlying133 rfl ξ ?_)
  obtain⟨W6,aY⟩:=ν (w5.alloc (.cells (Γh a.pk os J N ke O I) 133));have ak:Hid (ql w5 W6):=κ (by rw[<-aY];exact ql.alloc _ _);have cD:Hid (W6.heap[w5.heap.size]? =ϊ (.cells (Γh a.pk os J N ke O I) 133 (0,0))):=κ (by rw[<-aY];exact qj _ _);have cG:=κ (bs.o.blk η bg.o)
  (try rw[aY])
  clear aY dC;have dx:=κ aS.o.pk;have aP:=κ (aN.o.pkok a (by rw[<-bL.o];rw[<-aO.o];exact ϥ bv));obtain⟨af,bx⟩:=ν (zJ a.pk.pl);have bj:=κ (λw' (m:ql w5 w')=>Jg _ a.pk.pl w' (dx.o.l.keep m) aP.o.1.pl aP.o.2.l);rw[bx] at bj;have cQ:=κ bx;clear bx;obtain⟨U,bZ⟩: ∃U:ItS,(⟨H,o2,af,a.pk⟩:ItS)=U:=⟨_,rfl⟩;have aM:=κ bZ;clear bZ
  have cO:Hid (s.orderAt (ao,o2) t=subIds.foldl (RmS.put1 U) ad):=κ (by
   have aI:s.pks.getD H ac0=a:=by
    rw[<-aO.o,ϒ,ϖ bv];exact bL.o
   unfold RmS.orderAt
   rw[cP.o,bQ.o,Fh s (ao,o2) H aI,<-aM.o,<-cQ.o])
  have cT:Hid (∀y i,qh ad.book (y,i)=ϊ 0->(qh ad.lanes y).isSome=ό):=κ (by rw[<-bQ.o];exact aN.o.owes);have dz:Hid (qw F w Y):=κ (bT.o.trans (aE.o.at.stay bS.o));have dk:=λ(x:qt W6)=>β1 (qq (ak.o.trans x.h) cG.o)
  have ah:=λ(x:qt W6)=>qq x.h cD.o
  have dl:=λx=>β0 (ah x);have dm:=λx=>β1 (ah x);have dn:=λx=>β2 (ah x);have dp:=λx=>β3 (ah x);have dq:=λx=>β4 (ah x);have ds:=λx=>β5 (ah x);have dt:=λx=>β6 (ah x);have du:=λx=>β7 (ah x);have dv:=λx=>β8 (ah x);have dw:=λx=>β9 (ah x);clear ah
  go_cut [12] from 50 to 90 (λv bF=> ∃A:Nat,v= γ A/\RmP (acC a (δ os a.pk.ss.length J) (δ N a.pk.ex.length ke) (δ O a.pk.pl.length I)) a w0 bF k ad ([A]++([G.heap.size]++F))/\qw ([G.heap.size]++F) Y bF/\bF.heap[A]? =ϊ (.cells #[ι H,ι o2,af,a.pk.mr,υ a.pk.ty,φ a.pk.sq,ω a.pk.st,ω a.pk.sc,δ os a.pk.ss.length J,a.pk.has,φ a.pk.pr,δ N a.pk.ex.length ke,δ O a.pk.pl.length I] 199 (0,0)))
  case first=>
   refine zB W6 9 (.op 0 ύ (.op 1 ύ (.op 2 ύ (.op 3 ύ (.op 4 ύ (.op 6 ύ (.br [5,8] λk=>if k=5 then .op 7 ύ (.op 8 ό (.op 9 ό (.done))) else .op 5 ό (.op 7 ύ (.op 9 ό (.done)))))))))) ξ ξ ?_
   repeat (first | (refine jg rfl rfl (qk ρ) ?_) | (refine qH rfl rfl (qk ρ) ?_;intro K d;go_big_quiet_op;go_big_quiet_on))
   refine wP ζ ?_ ?_
   ·(refine qO rfl rfl ?_;intro K d;unfold jn;go_simp)
    refine(bj.o _ (ak.o.trans (ql.drewN W6 1))).mono ?_;rintro e w8 ⟨rfl,cj⟩;have ai:Hid (ql W6 w8):=κ ((ql.drewN W6 1).trans cj);clear cj;refine⟨_,rfl,qk ai.o,d _ _ ?_⟩;clear d K
    repeat (first | (refine jg rfl rfl (qk ai.o) ?_) | (refine qH rfl rfl (qk ai.o) ?_;intro K d;go_big_quiet_op;go_big_quiet_on))
    (refine qO rfl rfl ?_;intro K d;unfold jn;go_simp)
    refine⟨qk (ai.o.al _),d _ _ ?_⟩;clear d K;obtain⟨w9,bf⟩:=ν (w8.alloc (.cells Γa 199));obtain⟨A,an⟩:=ν (w8.heap.size);have az:Hid (w9.heap[A]? =ϊ (.cells Γa 199 (0,0))):=κ (by rw[<-bf,<-an];exact qj w8 _);have aq:Hid (ql W6 w9):=κ (by rw[<-bf];exact ai.o.al _);have ay:Hid (W6.heap.size<=A):=κ (by rw[<-an];exact ai.o.size)
    (try rw[bf])
    (try rw[an])
    clear bf an
    repeat (first | (refine jg rfl rfl (qk aq.o) ?_) | (refine qH rfl rfl (qk aq.o) ?_;intro K d;go_big_quiet_op;go_big_quiet_on))
    refine qO rfl rfl ?_;intro K d;have ae:=κ (aq.o.row ay.o #[ι H,ι o2,af,a.pk.mr,υ a.pk.ty,φ a.pk.sq,ω a.pk.st,ω a.pk.sc,δ os a.pk.ss.length J,a.pk.has,φ a.pk.pr,δ N a.pk.ex.length ke,δ O a.pk.pl.length I]);have aj:=κ (jM az.o #[ι H,ι o2,af,a.pk.mr,υ a.pk.ty,φ a.pk.sq,ω a.pk.st,ω a.pk.sc,δ os a.pk.ss.length J,a.pk.has,φ a.pk.pr,δ N a.pk.ex.length ke,δ O a.pk.pl.length I]);refine xw 199 (.tmp 12) (.tmp 57) rfl A 199 _ #[ι H,ι o2,af,a.pk.mr,υ a.pk.ty,φ a.pk.sq,ω a.pk.st,ω a.pk.sc,δ os a.pk.ss.length J,a.pk.has,φ a.pk.pr,δ N a.pk.ex.length ke,δ O a.pk.pl.length I] az.o rfl rfl ξ rfl X8 ?_;refine⟨qk ae.o,d _ _ ?_⟩;clear d K
    repeat (first | (refine jg rfl rfl (qk ae.o) ?_) | (refine qH rfl rfl (qk ae.o) ?_;intro K d;go_big_quiet_op;go_big_quiet_on))
    refine zg ?_;obtain⟨bt,av⟩:=ν (w9.setRow A #[ι H,ι o2,af,a.pk.mr,υ a.pk.ty,φ a.pk.sq,ω a.pk.st,ω a.pk.sc,δ os a.pk.ss.length J,a.pk.has,φ a.pk.pr,δ N a.pk.ex.length ke,δ O a.pk.pl.length I]);rw[av] at ae aj
    (try rw[av])
    clear av;have aC:Hid (RmP (acC a (δ os a.pk.ss.length J) (δ N a.pk.ex.length ke) (δ O a.pk.pl.length I)) a w0 bt k ad ([A]++([G.heap.size]++F))):=κ (aS.o.adds (ak.o.trans ae.o) (λb ac=>by simp at ac;subst ac;exact⟨ϙ ak.o.size ay.o,qn aj.o⟩));have aG:=κ (bs.o.trans (aA.o.1.stay (ak.o.trans ae.o)));go_wp2;go_meet;exact⟨_,rfl,aC.o,aG.o,aj.o⟩
   ·(refine qO rfl rfl ?_;intro K d;unfold jn;go_simp)
    refine⟨qk ((ql.drewN W6 1).al _),d _ _ ?_⟩;clear d K;obtain⟨w8,be⟩:=ν ((W6.drewN 1).alloc (.cells Γa 199));obtain⟨A,an⟩:=ν (W6.heap.size);have cE:Hid (w8.heap[A]? =ϊ (.cells Γa 199 (0,0))):=κ (by rw[<-be,<-an];exact qj (W6.drewN 1) _);have ai:Hid (ql W6 w8):=κ (by rw[<-be];exact(ql.drewN W6 1).al _);have ay:Hid (W6.heap.size<=A):=κ (by rw[<-an];exact(ql.drewN W6 1).size)
    (try rw[be])
    (try rw[an])
    clear be an
    repeat (first | (refine jg rfl rfl (qk ai.o) ?_) | (refine qH rfl rfl (qk ai.o) ?_;intro K d;go_big_quiet_op;go_big_quiet_on))
    (refine qO rfl rfl ?_;intro K d;unfold jn;go_simp)
    refine(bj.o _ (ak.o.trans ai.o)).mono ?_;rintro e w9 ⟨rfl,bD⟩;have aq:=κ (ai.o.trans bD);have az:=κ (qq bD cE.o);clear bD;refine⟨_,rfl,qk aq.o,d _ _ ?_⟩;clear d K
    repeat (first | (refine jg rfl rfl (qk aq.o) ?_) | (refine qH rfl rfl (qk aq.o) ?_;intro K d;go_big_quiet_op;go_big_quiet_on))
    refine qO rfl rfl ?_;intro K d;have ae:=κ (aq.o.row ay.o #[ι H,ι o2,af,a.pk.mr,υ a.pk.ty,φ a.pk.sq,ω a.pk.st,ω a.pk.sc,δ os a.pk.ss.length J,a.pk.has,φ a.pk.pr,δ N a.pk.ex.length ke,δ O a.pk.pl.length I]);have aj:=κ (jM az.o #[ι H,ι o2,af,a.pk.mr,υ a.pk.ty,φ a.pk.sq,ω a.pk.st,ω a.pk.sc,δ os a.pk.ss.length J,a.pk.has,φ a.pk.pr,δ N a.pk.ex.length ke,δ O a.pk.pl.length I]);refine xw 199 (.tmp 12) (.tmp 57) rfl A 199 _ #[ι H,ι o2,af,a.pk.mr,υ a.pk.ty,φ a.pk.sq,ω a.pk.st,ω a.pk.sc,δ os a.pk.ss.length J,a.pk.has,φ a.pk.pr,δ N a.pk.ex.length ke,δ O a.pk.pl.length I] az.o rfl rfl ξ rfl X8 ?_;refine⟨qk ae.o,d _ _ ?_⟩;clear d K
    repeat (first | (refine jg rfl rfl (qk ae.o) ?_) | (refine qH rfl rfl (qk ae.o) ?_;intro K d;go_big_quiet_op;go_big_quiet_on))
    refine zg ?_;obtain⟨bt,av⟩:=ν (w9.setRow A #[ι H,ι o2,af,a.pk.mr,υ a.pk.ty,φ a.pk.sq,ω a.pk.st,ω a.pk.sc,δ os a.pk.ss.length J,a.pk.has,φ a.pk.pr,δ N a.pk.ex.length ke,δ O a.pk.pl.length I]);rw[av] at ae aj
    (try rw[av])
    clear av;have aC:Hid (RmP (acC a (δ os a.pk.ss.length J) (δ N a.pk.ex.length ke) (δ O a.pk.pl.length I)) a w0 bt k ad ([A]++([G.heap.size]++F))):=κ (aS.o.adds (ak.o.trans ae.o) (λb ac=>by simp at ac;subst ac;exact⟨ϙ ak.o.size ay.o,qn aj.o⟩));have aG:=κ (bs.o.trans (aA.o.1.stay (ak.o.trans ae.o)));go_wp2;go_meet;exact⟨_,rfl,aC.o,aG.o,aj.o⟩
  case rest=>
  obtain⟨A,rfl,cb,cz,bW⟩:=hcut;have aC:=κ cb;have aG:=κ cz;have aj:=κ bW;clear dk dl dm dn dp dq ds dt du dv dw cb cz bW;go_wp2
  go_loopw [58] (λbC wr=> ∃j:Nat,j<=6/\bC= ι j/\RmP (acC a (δ os a.pk.ss.length J) (δ N a.pk.ex.length ke) (δ O a.pk.pl.length I)) a w0 wr k ((subIds.take j).foldl (RmS.put1 U) ad) ([A]++([G.heap.size]++F))/\qw ([A]++([G.heap.size]++F)) wc wr) (λbC _=>6-(intOf bC).toNat)
  case atStart=>exact⟨0,τ,rfl,aC.o,qw.refl _ _⟩
  case round=>
   obtain⟨j,dQ,rfl,ce,aw⟩:=hrel;have aD:=κ ce;have bo:=κ aw;have cF:=κ (aw.blk η aj.o);clear aw;by_cases hlt:j<6
   ·have dH:(j:Int)<6:=by omega
    have bn:=κ (QW hlt);have cS:=κ (ZD U (subIds.take j) cT.o);generalize ci:(subIds.take j).foldl (RmS.put1 U) ad=sj at *;have bm:=κ ci;clear ci;obtain⟨dN,dU,dW,ax,_⟩:=ce;have dB:=β0 ax.blk;have bl:=κ (Hs ax.bok (j:Int) (H:Int));obtain⟨dK,aJ⟩:=ν (decide (qh sj.book ((j:Int),(H:Int))=ϊ 0));rw[aJ] at bl;cases dK with
    | false=>
     have aB:Hid (sj.put1 U (j:Int)=sj):=κ (by unfold RmS.put1;rw[<-aM.o];exact Ϗ (D8 aJ));clear aJ ax
     go_wp2_with (go_at_call 191;(go_call bl.o as e ag ⟨rfl,aK⟩;have ap:=κ aK;clear aK))
     go_roundw
     case rel=>exact⟨j+1,τ,by go_num,by rw[bn.o,Φ,bm.o];show RmP _ a w0 _ k (sj.put1 U (j:Int)) _;rw[aB.o];exact aD.o.on ap.o,bo.o.trans (aD.o.at.stay ap.o)⟩
     case measure=>simp[intOf];omega
    | true=>
     have bB:qh sj.book ((j:Int),(H:Int))=ϊ 0:=Ϧ aJ;obtain⟨l,ba⟩:=Ϯ.1 (cS.o (j:Int) (H:Int) bB);obtain⟨pl,cc,_⟩:=ax.laneAt ba;have aB:Hid (sj.put1 U (j:Int)=if (xp l U).2.2.1 then {sj with lanes:=qx sj.lanes (j:Int) (xp l U).1,book:=jp sj.book (j:Int) (xp l U).2.1 6} else {sj with lanes:=qx sj.lanes (j:Int) (xp l U).1}):=κ (by unfold RmS.put1;rw[ϓ (by rw[<-aM.o];exact bB),ba]);have cR:=κ ba;have bO:=κ cc;have aW:=κ ax;clear aJ ax bB ba cc
     go_upto_region 10 with (go_at_call 191;(go_call bl.o as e ag ⟨rfl,aK⟩;have ap:=κ aK;clear aK))
     have dO:A≠k.R:=λe=>by have:=(aW.o.law A η).1;rw[e,(aW.o.all .room).1] at this;cases this
     have cH:=λ(x:qz (λb=>b≠k.R/\b≠k.ML/\b∉[A]++([G.heap.size]++F)) ag)=>β12 (x.h.blk (qq ap.o aW.o.blk) (λc=>c.1 rfl))
     have bh: ∀x:qz (λb=>b≠k.R/\b≠k.ML/\b∉[A]++([G.heap.size]++F)) ag,(Instr.lookup 94 (.map (ϊ k.ML)) (ι (j:Int)) ύ).run prog x.w'= .ok (γ pl) x.w':=λx=>by
      have:=xq ((aW.o.lnm.more ap.o).away x.h (λc=>c.2.1 rfl)) (j:Int) ύ;rw[bO.o] at this;exact this
     have bJ: ∀x:qz (λb=>b≠k.R/\b≠k.ML/\b∉[A]++([G.heap.size]++F)) ag,x.w'.heap[A]? =ϊ (.cells #[ι H,ι o2,af,a.pk.mr,υ a.pk.ty,φ a.pk.sq,ω a.pk.st,ω a.pk.sc,δ os a.pk.ss.length J,a.pk.has,φ a.pk.pr,δ N a.pk.ex.length ke,δ O a.pk.pl.length I] 199 (0,0)):=λx=>x.h.blk (qq ap.o cF.o) (λc=>c.2.2 η)
     have aa:=λ(x:qz (λb=>b≠k.R/\b≠k.ML/\b∉[A]++([G.heap.size]++F)) ag)=>bJ x
     have cX:=λx=>β0 (aa x);have cY:=λx=>β1 (aa x);have dc:=λx=>β2 (aa x);have dd:=λx=>β3 (aa x);have de:=λx=>β4 (aa x);have df:=λx=>β5 (aa x);have dg:=λx=>β6 (aa x);have dh:=λx=>β7 (aa x);have di:=λx=>β8 (aa x);have dj:=λx=>β9 (aa x);have cZ:=λx=>β10 (aa x);have da:=λx=>β11 (aa x);have db:=λx=>β12 (aa x);clear aa
     refine QN (λb=>b≠k.R/\b≠k.ML/\b∉[A]++([G.heap.size]++F)) ag 15 15 [7] ?_
     refine Qs7 ?_
     (refine Ql ?_;intro K d)
     obtain⟨l',bz⟩: ∃l',(xp l U).1=l':=⟨_,rfl⟩;obtain⟨cv,bA⟩:=ν ((xp l U).2.1);obtain⟨dr,bu⟩:=ν ((xp l U).2.2.1);obtain⟨dD,bY⟩:=ν ((xp l U).2.2.2)
     have aQ:Hid (Calls prog 192 #[γ pl,θ #[ι H,ι o2,af,a.pk.mr,υ a.pk.ty,φ a.pk.sq,ω a.pk.st,ω a.pk.sc,δ os a.pk.ss.length J,a.pk.has,φ a.pk.pr,δ N a.pk.ex.length ke,δ O a.pk.pl.length I]] (ag.drewN 1) λe w'=>e= .returned (.tuple #[ι cv,dr,ι dD])/\
       RmP (acC a (δ os a.pk.ss.length J) (δ N a.pk.ex.length ke) (δ O a.pk.pl.length I)) a w0 w' k {sj with lanes:=qx sj.lanes (j:Int) l'} ([A]++([G.heap.size]++F))/\qw ([A]++([G.heap.size]++F)) (ag.drewN 1) w'/\jt (λb=>b≠k.R/\b≠k.ML/\b∉[A]++([G.heap.size]++F)) (ag.drewN 1) w'):=κ (by
      rw[<-bz,<-bA,<-bu,<-bY,<-aM.o];have h:=(aD.o.on ap.o).on (ql.drewN ag 1)
      exact Mz h ⟨H,o2,af,a.pk⟩ os N O J ke I h.pk aP.o.1 aP.o.2 cR.o bO.o)
     rw[bz,bA,bu] at aB;clear bz bA bu bY
     (with_reducible refine aQ.o.mono ?_)
     rintro e cC ⟨rfl,cw,cA,bV⟩;have bi:=κ cw;have bU:Hid (qw ([A]++([G.heap.size]++F)) wc cC):=κ (bo.o.trans ((aD.o.at.stay (ap.o.dr 1)).trans cA));have bH:Hid (jt (λb=>b≠k.R/\b≠k.ML/\b∉[A]++([G.heap.size]++F)) ag cC):=κ (((jt.refl _ ag).drewN 1).trans bV);clear cw cA bV;refine⟨_,rfl,qi bH.o,d _ _ ?_⟩;clear d K
     iterate 7 (refine qE rfl rfl (qi bH.o) ?_;intro K d;go_big_quiet_op;go_big_quiet_on)
     refine qA ?_;clear cH bh bJ cX cY dc dd de df dg dh di dj cZ da db;cases dr with
     | false=>
      go_wp2;go_roundw
      case rel=>exact⟨j+1,τ,by go_num,by rw[bn.o,Φ,bm.o];show RmP _ a w0 _ k (sj.put1 U (j:Int)) _;rw[aB.o];exact bi.o,bU.o⟩
      case measure=>simp[intOf];omega
     | true=>
      obtain⟨_,_,bK⟩:=bi.o.at.blk;have dB:=β0 bK;clear bK;have cW:=κ (CD bi.o (j:Int) cv 6)
      go_wp2_with (go_at_call 178;(go_call cW.o as e w13 ⟨rfl,cx,cB⟩;have cN:=κ cx;have dy:=κ cB;clear cx cB))
      go_roundw
      case rel=>exact⟨j+1,τ,by go_num,by rw[bn.o,Φ,bm.o];show RmP _ a w0 _ k (sj.put1 U (j:Int)) _;rw[aB.o];exact cN.o,bU.o.trans dy.o⟩
      case measure=>simp[intOf];omega
   ·obtain rfl:j=6:=by omega
    have dH: ¬((6:Nat):Int)<6:=by omega
    go_wp2
    (refine bodyPost_end (v:= .tuple #[]) ?re1 rfl ?_;(case re1=>simp[results,results149,go_sem]))
    exact⟨rfl,by rw[bk.o,cO.o];have h:=aD.o.at;exact h.sub (λb ac=>by simp[ac]),dz.o.trans ((aG.o.sub (λb ac=>by simp[ac])).trans (bo.o.sub (λb ac=>by simp[ac])))⟩
def qV.rd (h:qV n s) (af:n<=100000):Ia s:=by
 have Y:=h.num.malf;have aa:=h.num.told;have ab:=h.num.strange;have ac:=h.num.acc;have ad:=h.num.pks;have ae:=h.num.clock;refine⟨⟨h.tb.keys,h.tb.lane,ϙ h.num.few τ⟩,λx U a b m J=>by rw[h.tb.str _ _ J];exact h.tb.pub x U a b,τ,τ,τ,τ,τ,⟨τ,τ⟩,λo t H=>⟨λd=> ?_,λsq N=> ?_⟩,h.tb.org,λb G=>⟨(h.num.queue b G).1,by have:=(h.num.queue b G).2;omega⟩,λo t H x O=>h.ow.few o t H _ (ο.2 ⟨x,O,rfl⟩),λa d=>⟨(h.num.pkok a d).1,(h.num.pkok a d).2.1⟩,λx id G=> ?_⟩
 ·have:=h.num.great o t H d;exact⟨τ,τ⟩
 ·have:=WS (n:=n) N (h.num.great o t H);exact⟨τ,τ⟩
 ·obtain⟨l,I,_⟩:=h.ow.src x id G;rw[I];rfl
def Hq (aG:qI w0 w k s F) (au:qV n s) (av:n<=100000) (w1 w2:Int) (acc:Bool):
  Calls prog 123 #[γ k.R,θ #[ι w1,ι w2],acc] w λe w'=>e= .returned (μ (s.pick (w1,w2) acc).2)/\qI w0 w' k (s.pick (w1,w2) acc).1 F/\qw F w w':=by
 obtain⟨T,vp,aL,h⟩:=aG;obtain⟨W1,J⟩:=ν (w.alloc (.cells #[ι w1,ι w2] 157));have az:Hid (ql w W1):=κ (by rw[<-J];exact ql.alloc _ _);have am:Hid (W1.heap[w.heap.size]? =ϊ (.cells #[ι w1,ι w2] 157 (0,0))):=κ (by rw[<-J];exact qj w _);have I:=κ (h.on az.o);have af:=κ (h.at.stay az.o);have ap:=κ au;have aq:=κ (au.rd av);obtain⟨c,ar⟩:=ν (s.may (w1,w2));obtain⟨aA,aB⟩:=ν (s.closed);have ad:=κ (LI I.o aq.o.clock w1 w2);rw[ar] at ad;have an:=κ ar;have ac:=κ aB;have ah:=β0 am.o;have ai:=β1 am.o;have ax:=κ av;clear h ar aB au av;cases c with
 | false=>
  have ao:Hid (s.pick (w1,w2) acc=(s,ύ)):=κ (by unfold RmS.pick;rw[Ϗ (by rw[an.o];decide)]);rw[ao.o]
  go_enter func123,ntmps123
  go_upto_region 1 with fail
  (try rw[J])
  clear J
  go_wp2_with (go_at_call 145;(go_call ad.o as e aj ⟨rfl,d⟩;have G:=κ d;clear d))
  go_ret;exact⟨rfl,(I.o.on G.o).at,af.o.trans (I.o.at.stay G.o)⟩
 | true=>
  have ao:Hid (s.pick (w1,w2) acc=(s.stepW (w1,w2) acc,ό)):=κ (by unfold RmS.pick;rw[ϓ an.o]);rw[ao.o]
  have ay:Hid ((w1,w2)∈s.workers/\(if s.closed then !((qh s.ret (w1,w2)).getD ύ) else s.mayOpen (w1,w2))=ό):=κ (by
   have h:=an.o;unfold RmS.may at h;rw[C2] at h
   exact⟨Ϧ h.1,h.2⟩)
  have aJ:(w1=0∨w1=1∨w1=2∨w1=3∨w1=4)/\(2<=w1->(qh s.lanes w2).isSome=ό):=by
   rcases mem_workers.1 ay.o.1 with e | e | e
   ·injection e with e3 e4
    exact⟨ϑ e3,λh=>by omega⟩
   ·injection e with e3 e4
    exact⟨ϕ (ϑ e3),λh=>by omega⟩
   ·exact⟨ϕ (ϕ e.1),λ_=>e.2.2⟩
  obtain⟨aC,aD⟩:=aJ;have ak:=κ aD;clear aD;have ae: ∀w',ql W1 w'->w'.cell? ⟨k.R,7,ϋ⟩=ϊ (μ aA):=λw' m=>by rw[<-ac.o];exact qa (qq m I.o.blk) 7 rfl
  have ag:=κ ae;have N:=κ (λw' (m:ql W1 w')=>qq m am.o);clear ae;cases aA with
  | true=>
   have U:Hid (s.stepW (w1,w2) acc=s.endW (w1,w2)):=κ (by unfold RmS.stepW;rw[ϓ ac.o]);have aI:=ap.o.num.lost;have aw:=ax.o;have aE:=κ (λw' (m:ql W1 w')=>ME (I.o.at.on m) w1 w2 acc τ ak.o τ);clear aI aw aC
   go_enter func123,ntmps123
   go_upto_region 1 with fail
   (try rw[J])
   clear J
   go_wp2_with (first | (go_at_call 145;(go_call ad.o as e aj ⟨rfl,d⟩;have G:=κ d;have ae:=ag.o _ d;have ah:=β0 (N.o _ d);have ai:=β1 (N.o _ d);clear d)) | (go_at_call 147;(go_call aE.o _ G.o as e w4 ⟨rfl,H,t4⟩;have O:=κ H;have Y:=κ t4;clear H t4)))
   go_ret;exact⟨rfl,by rw[U.o];exact O.o,af.o.trans ((I.o.at.stay G.o).trans Y.o)⟩
  | false=>
   have aF:Hid (s.mayOpen (w1,w2)=ό):=κ (by
    have:=ay.o.2;rw[ac.o] at this
    exact this)
   rcases aC with rfl | rfl | rfl | rfl | rfl
   ·have U:Hid (s.stepW (0,w2) acc=s.read):=κ (by unfold RmS.stepW;rw[Ϗ (by rw[ac.o];decide),ϓ rfl]);obtain⟨b,q,al⟩: ∃b q,s.queue=b::q:=by
     have h:=aF.o;unfold RmS.mayOpen at h;rw[ϓ rfl] at h;have h:=Ϧ h;cases al:s.queue with
     | nil=>rw[al] at h;simp at h
     | cons b q=>exact⟨b,q,rfl⟩
    have aa:=κ (λw' (m:ql W1 w')=>Mx (I.o.at.on m) aq.o al 0 w2 acc);clear al
    go_enter func123,ntmps123
    go_upto_region 1 with fail
    (try rw[J])
    clear J
    go_wp2_with (first | (go_at_call 145;(go_call ad.o as e aj ⟨rfl,d⟩;have G:=κ d;have ae:=ag.o _ d;have ah:=β0 (N.o _ d);have ai:=β1 (N.o _ d);clear d)) | (go_at_call 148;(go_call aa.o _ G.o as e w4 ⟨rfl,H,t4⟩;have O:=κ H;have Y:=κ t4;clear H t4)))
    go_ret;exact⟨rfl,by rw[U.o];exact O.o,af.o.trans ((I.o.at.stay G.o).trans Y.o)⟩
   ·have U:Hid (s.stepW (1,w2) acc=s.order):=κ (by unfold RmS.stepW;rw[Ϗ (by rw[ac.o];decide),Ϗ η,ϓ rfl]);have aa:=κ (λw' (m:ql W1 w')=>Lg (I.o.at.on m) aq.o 1 w2 acc)
    go_enter func123,ntmps123
    go_upto_region 1 with fail
    (try rw[J])
    clear J
    go_wp2_with (first | (go_at_call 145;(go_call ad.o as e aj ⟨rfl,d⟩;have G:=κ d;have ae:=ag.o _ d;have ah:=β0 (N.o _ d);have ai:=β1 (N.o _ d);clear d)) | (go_at_call 149;(go_call aa.o _ G.o as e w4 ⟨rfl,H,t4⟩;have O:=κ H;have Y:=κ t4;clear H t4)))
    go_ret;exact⟨rfl,by rw[U.o];exact O.o,af.o.trans ((I.o.at.stay G.o).trans Y.o)⟩
   ·have U:Hid (s.stepW (2,w2) acc=s.choose w2):=κ (by unfold RmS.stepW;rw[Ϗ (by rw[ac.o];decide),Ϗ η,Ϗ η,ϓ rfl]);obtain⟨l,ab⟩:=Ϯ.1 (ak.o ζ);have aa:=κ (λw' (m:ql W1 w')=>FG (I.o.at.on m) 2 w2 acc ab);clear ab
    go_enter func123,ntmps123
    go_upto_region 1 with fail
    (try rw[J])
    clear J
    go_wp2_with (first | (go_at_call 145;(go_call ad.o as e aj ⟨rfl,d⟩;have G:=κ d;have ae:=ag.o _ d;have ah:=β0 (N.o _ d);have ai:=β1 (N.o _ d);clear d)) | (go_at_call 150;(go_call aa.o _ G.o as e w4 ⟨rfl,H,t4⟩;have O:=κ H;have Y:=κ t4;clear H t4)))
    go_ret;exact⟨rfl,by rw[U.o];exact O.o,af.o.trans ((I.o.at.stay G.o).trans Y.o)⟩
   ·have U:Hid (s.stepW (3,w2) acc=s.rewrite w2):=κ (by unfold RmS.stepW;rw[Ϗ (by rw[ac.o];decide),Ϗ η,Ϗ η,Ϗ η,ϓ rfl]);obtain⟨l,ab⟩:=Ϯ.1 (ak.o ζ);have aa:=κ (λw' (m:ql W1 w')=>CE (I.o.at.on m) 3 w2 acc ab);clear ab
    go_enter func123,ntmps123
    go_upto_region 1 with fail
    (try rw[J])
    clear J
    go_wp2_with (first | (go_at_call 145;(go_call ad.o as e aj ⟨rfl,d⟩;have G:=κ d;have ae:=ag.o _ d;have ah:=β0 (N.o _ d);have ai:=β1 (N.o _ d);clear d)) | (go_at_call 151;(go_call aa.o _ G.o as e w4 ⟨rfl,H,t4⟩;have O:=κ H;have Y:=κ t4;clear H t4)))
    go_ret;exact⟨rfl,by rw[U.o];exact O.o,af.o.trans ((I.o.at.stay G.o).trans Y.o)⟩
   ·have U:Hid (s.stepW (4,w2) acc=s.write w2 acc):=κ (by unfold RmS.stepW;rw[Ϗ (by rw[ac.o];decide),Ϗ η,Ϗ η,Ϗ η,Ϗ η]);obtain⟨l,ab⟩:=Ϯ.1 (ak.o ζ);have aK:=ap.o.num.wr w2 l ab;have aH:=ap.o.num.book;have aw:=ax.o;have aa:=κ (λw' (m:ql W1 w')=>La (I.o.at.on m) 4 w2 acc ab τ τ);clear ab aK aH aw
    go_enter func123,ntmps123
    go_upto_region 1 with fail
    (try rw[J])
    clear J
    go_wp2_with (first | (go_at_call 145;(go_call ad.o as e aj ⟨rfl,d⟩;have G:=κ d;have ae:=ag.o _ d;have ah:=β0 (N.o _ d);have ai:=β1 (N.o _ d);clear d)) | (go_at_call 146;(go_call aa.o _ G.o as e w4 ⟨rfl,H,t4⟩;have O:=κ H;have Y:=κ t4;clear H t4)))
    go_ret;exact⟨rfl,by rw[U.o];exact O.o,af.o.trans ((I.o.at.stay G.o).trans Y.o)⟩
def Li (h:RmX T w0 w k vp vr s F) (ad:s.ret.length<=1000000):Calls prog 83 #[γ k.R] w λe w'=>e= .returned (μ s.ended)/\ql w w':=by
 have J:=κ h;have Y:=β7 h.blk;have ac:=β8 h.blk;obtain⟨aa,G⟩:=ν (s.closed);rw[G] at Y;have I:=κ G;clear G h;cases aa with
 | false=>
  have d:Hid (s.ended=ύ):=κ (by unfold RmS.ended;rw[I.o];rfl);rw[d.o]
  go_enter func83,ntmps83
  go_wp2;go_ret;exact⟨rfl,ql.refl _⟩
 | true=>
  have d:Hid (s.ended=decide (s.ret.length=s.workers.length)):=κ (by unfold RmS.ended;rw[I.o];rfl);have af: ∀H,(Builtin.len_ #[91] H #[.map (ϊ k.M1)]).run prog w= .ok (ι s.ret.length) w:=λH=>J.o.retm.len underlying91 H
  have O:=κ (Xr J.o);rw[d.o]
  go_enter func83,ntmps83
  go_wp2_with (go_at_call 124;(go_call O.o as e w2 ⟨ae,cap,rfl,ab,N⟩;have U:=κ N;clear ab N))
  go_ret;exact⟨qZ (by rw[D2];simp only[P6,C3];omega),U.o⟩
def ln0:LnS:=Vd 0 0 0 0 0
def RmS.ln (s:RmS) (x:Int):LnS:=(qh s.lanes x).getD ln0
def CA (h:RmX T w0 w k vp vr s F) (x:Int) (d:(s.ln x).W.length<=1000000):Calls prog 126 #[γ k.R,ι x] w λe w'=>(∃v,e= .returned v/\je 2 (ROn w.heap.size) (λb=>b<w.heap.size) w' w.heap.size 209 v (s.ln x).W)/\ql w w':=by
 have aa:=β12 h.blk;have q:_:=xq h.lnm x ό;simp only[C1] at q;cases hl:qh s.lanes x with
 | none=>
  have G:Hid (s.ln x=ln0):=κ (by unfold RmS.ln;rw[hl];rfl)
  replace q:(Instr.lookup 94 (.map (ϊ k.ML)) (ι x) ό).run prog w= .ok (.tuple #[π ϋ,ύ]) w:=by rw[h.laneNo hl] at q;exact q
  rw[G.o];clear h hl d
  go_enter func126,ntmps126
  go_wp2;go_ret;exact⟨⟨_,rfl,je.nil _ _ _ _ _ _⟩,ql.refl _⟩
 | some l=>
  obtain⟨p,I,H⟩:=h.laneAt hl;have G:Hid (s.ln x=l):=κ (by unfold RmS.ln;rw[hl];rfl);rw[G.o] at d ⊢
  replace q:(Instr.lookup 94 (.map (ϊ k.ML)) (ι x) ό).run prog w= .ok (.tuple #[γ p,ό]) w:=by rw[I] at q;exact q
  have O:=κ (Uh H d);clear h hl I H d
  go_enter func126,ntmps126
  go_wp2_with (go_at_call 153;(go_call O.o as e w2 ⟨⟨v,rfl,N⟩,J⟩;have Y:=κ N;have U:=κ J;clear N J))
  go_ret;exact⟨⟨_,rfl,Y.o⟩,U.o⟩
def qaN [DecidableEq K] (k:K) (v:V): ∀(m:List (K×V)),qh m k=ϋ->qx m k v=m++[(k,v)]
 | [],_=>rfl
 | (a,u)::m,h=>by
  unfold qh at h;unfold qx;by_cases c:k=a
  ·rw[ϓ c] at h;cases h
  ·rw[Ϗ c] at h ⊢;rw[qaN k v m h];rfl
def qbw [DecidableEq K] (k:K) (v:V) (m:List (K×V)) (h:(m.map Prod.fst).Nodup):((qx m k v).map Prod.fst).Nodup:=by
 cases e:qh m k with
 | some u=>rw[KL k v m (by rw[e];rfl)];exact h
 | none=>
  rw[qaN k v m e,ϩ,G8];refine⟨h,η,λa H b d=> ?_⟩;rw[Ϛ,C6,A8] at d;subst d;intro c;subst c;obtain⟨u,G⟩:=QB H;rw[e] at G;cases G
structure Q4 (s s':RmS):Prop where
 reqs:s'.reqs=s.reqs
 clock:s'.clock=s.clock
 ret:s'.ret=s.ret
 tab:s'.tab.u=s.tab.u
def Q4.refl (s:RmS):Q4 s s:=⟨rfl,rfl,rfl,rfl⟩
def Q4.trans {s'':RmS} (h:Q4 s s') (k:Q4 s' s''):Q4 s s'':=⟨k.reqs.trans h.reqs,k.clock.trans h.clock,k.ret.trans h.ret,k.tab.trans h.tab⟩
def Loc.q4 (h:Loc s s'):Q4 s s':=⟨h.reqs,h.clock,h.ret,by rw[h.tab]⟩
def qcG (d: ∀s x,Q4 s (f s x)): ∀(L:List α) (s:RmS),Q4 s (L.foldl f s)
 | [],s=>Q4.refl s
 | x::L,s=>(d s x).trans (qcG d L (f s x))
def qeG (s:RmS) (b:List Int):Q4 s (s.tell b):=by
 unfold RmS.tell;split
 ·exact(Q4.trans (s':={s with cnt:={s.cnt with told:=s.cnt.told+1}}) ⟨rfl,rfl,rfl,rfl⟩ (ko _ _).q4)
 ·exact⟨rfl,rfl,rfl,rfl⟩
def qd1 (s:RmS) (o:Og) (p:Pk):Q4 s (s.accept o p):=by
 unfold RmS.accept;cases qh s.strs o<;>exact⟨rfl,rfl,rfl,rfl⟩
def qek (s:RmS) (b:List Int):Q4 s (s.media b):=by
 unfold RmS.media;split
 ·cases qh s.tab.o (jl b).1.sc with
  | none=>exact⟨rfl,rfl,rfl,rfl⟩
  | some o=>exact qd1 s o _
 ·exact⟨rfl,rfl,rfl,rfl⟩
def qeJ (s:RmS):Q4 s s.read:=by
 unfold RmS.read;cases s.queue with
 | nil=>exact Q4.refl s
 | cons b q=>
  simp only;split
  ·exact Q4.trans (s':={s with queue:=q}) ⟨rfl,rfl,rfl,rfl⟩ (qeG _ b)
  ·exact Q4.trans (s':={s with queue:=q}) ⟨rfl,rfl,rfl,rfl⟩ (qek _ b)
def qeq (s:RmS) (w:Og):Q4 s (s.drain w):=by
 unfold RmS.drain;split
 ·exact⟨rfl,rfl,rfl,rfl⟩
 ·split
  ·refine qcG (λs o=> ?_) _ s;unfold RmS.drainO;cases qh s.strs o with
   | none=>exact Q4.refl s
   | some t=>
    simp only;refine Q4.trans (s':={s with strs:=qx s.strs o {t with buf:=vP t.buf}}) ⟨rfl,rfl,rfl,rfl⟩ ?_;exact qcG (f:=RmS.drain1) (λ_ _=>⟨rfl,rfl,rfl,rfl⟩) _ _
  ·unfold RmS.drainL;cases qh s.lanes w.2<;>exact⟨rfl,rfl,rfl,rfl⟩
structure Nt (s s':RmS):Prop where
 reqs:s'.reqs=s.reqs
 clock:s'.clock=s.clock
 ret:s'.ret.length<=s.ret.length+1
 nd:(s.tab.u.map Prod.fst).Nodup->(s'.tab.u.map Prod.fst).Nodup
def Q4.nt (h:Q4 s s'):Nt s s':=⟨h.reqs,h.clock,by rw[h.ret];omega,λk=>by rw[h.tab];exact k⟩
def qc0 [DecidableEq K] (k:K) (v:V): ∀m:List (K×V),(qx m k v).length<=m.length+1
 | []=>by simp[qx]
 | p::m=>by
  have:=qc0 k v m;unfold qx;split<;>simp<;>omega
def qeH (s:RmS) (w:Og) (acc:Bool):Nt s (s.stepW w acc):=by
 unfold RmS.stepW;split
 ·unfold RmS.endW;have d:=qeq s w;split
  ·exact⟨d.reqs,d.clock,qc0 _ _ _,λk=>by show ((s.drain w).tab.u.map Prod.fst).Nodup;rw[d.tab];exact k⟩
  ·exact d.nt
 ·split
  ·exact(qeJ s).nt
  ·split
   ·exact(kr s).q4.nt
   ·split
    ·exact(vu s _).q4.nt
    ·split
     ·exact(yA s _).q4.nt
     ·unfold RmS.write;cases qh s.lanes w.2 with
      | none=>exact(Q4.refl s).nt
      | some l=>
       refine⟨rfl,rfl,D0 _,λk=> ?_⟩;show ((if (qX l acc).1.gone then (zM s.tab w.2).1 else s.tab).u.map Prod.fst).Nodup;split
       ·unfold zM;split
        ·split
         ·exact qbw _ _ _ k
         ·exact k
        ·exact k
       ·exact k
def qfo (s:RmS) (a:A22) (d: ¬a.act=2):Nt s (doR s a).1:=by
 have r:=(Q4.refl s).nt;unfold doR;split
 ·unfold RmS.arrive;split
  ·exact r
  ·split<;>exact⟨rfl,rfl,D0 _,id⟩
 ·split
  ·unfold RmS.pick;split
   ·exact qeH s _ _
   ·exact r
  ·split
   ·unfold RmS.publish;split
    ·exact r
    ·split
     ·exact⟨rfl,rfl,D0 _,λk=>by show ((vA s.tab a.pub a.s0 a.s1 a.s2).1.u.map Prod.fst).Nodup;rw[Rz];exact k⟩
     ·exact r
   ·split
    ·unfold RmS.join;split
     ·exact r
     ·split
      ·refine⟨rfl,rfl,D0 _,λk=> ?_⟩;show ((yI s.tab a.sub a.own).1.u.map Prod.fst).Nodup;unfold yI;split
       ·split
        ·exact k
        ·exact qbw _ _ _ k
       ·exact k
      ·exact r
    ·split
     ·unfold RmS.subscribe;split
      ·exact r
      ·split
       ·exact r
       ·split
        ·exact r
        ·split
         ·cases qh s.lanes a.sub with
          | none=>exact r
          | some l=>
           refine⟨rfl,rfl,D0 _,λk=> ?_⟩;show ((vL s.tab a.sub a.pub).1.u.map Prod.fst).Nodup;unfold vL;split
           ·split
            ·split
             ·exact k
             ·exact qbw _ _ _ k
            ·exact k
           ·exact k
         ·exact r
     ·split
      ·unfold RmS.want;split
       ·exact r
       ·split
        ·exact r
        ·split
         ·exact r
         ·cases qh s.lanes a.sub<;>exact⟨rfl,rfl,D0 _,id⟩
      ·split
       ·unfold RmS.leave;split
        ·exact r
        ·split
         ·refine⟨rfl,rfl,D0 _,λk=> ?_⟩;show ((zW s.tab a.sub).1.u.map Prod.fst).Nodup;unfold zW;split
          ·split
           ·exact ZO _ _ k
           ·exact k
          ·exact k
         ·exact r
       ·split
        ·unfold RmS.shut;split
         ·exact r
         ·exact⟨rfl,rfl,D0 _,id⟩
        ·exact r
def Lf (h:RmX T w0 w k vp vr s F) {b:List Int} {I:Nat} (av:SlI .u8 w (δ H b.length I) b) (N:Byt b) (ah:b≠[]-> ∀g,(δ H b.length I).ownBlock=ϊ g->T g= .data/\g<w.heap.size):
  Calls prog 67 #[γ k.RQ,δ H b.length I] w λe w'=> ∃vx,e= .returned (.tuple #[vx,(!decide (s.queue.length<s.cfg.room.toNat)),ι 0])/\
   qI w0 w' k {s with queue:=if s.queue.length<s.cfg.room.toNat then s.queue++[b] else s.queue.tail++[b]} F/\qw F w w'/\jt (RgB k.RQ k.AQ) w w':=by
 obtain⟨f,Q,af,ag,ad,ae,css,g,a⟩:=h.que;obtain⟨t1,t2,_⟩:=h.all .queue;have ai:=g.fits;have aj:=a.len;have key: ∀{w':World} {D:Nat->Prop},jt (RgB k.RQ k.AQ) w w'->(∀c,D c->T c≠ .data∨w.heap.size<=c)->jw RBy D w' [δ H b.length I] b:=by
  intro w' D d G w'' al
  have s1:=av.off2 (D:=RgB k.RQ k.AQ) (λab c aa ac=>by
   have:=(ah ab c aa).1;rcases ac with rfl | rfl
   ·rw[t1] at this;cases this
   ·rw[t2] at this;cases this) d
  refine⟨_,rfl,s1.off2 (D:=D) (λab c aa ac=> ?_) al,N⟩;obtain⟨ap,aw⟩:=ah ab c aa;rcases G c ac with q | q
  ·exact q ap
  ·omega
 have ak: ∀{w':World} {D:Nat->Prop} {J:List (List Value)} {q':List (List Int)},zb (jw RBy (λb=>T b≠ .data) w) J q'->jt (RgB k.RQ k.AQ) w w'->(∀c,D c->T c≠ .data∨w.heap.size<=c)->zb (jw RBy D w') J q':=by
  intro w' D J q' a d G;have am:jt (λb=>T b≠ .data) w w':=d.mono λb N=>by
   rcases N with rfl | rfl
   ·rw[t1];simp
   ·rw[t2];simp
  exact a.mono λc y aq=>(aq.step am).other λb N=>(G b N).elim ϑ (λx=>ϑ (by rw[h.fresh b x];simp))
 by_cases hq:s.queue.length<s.cfg.room.toNat
 ·rw[ϓ hq,ϻ hq];refine(UB w _ _ _ f Q af ag ad ae css g τ H _ I).mono ?_;rintro e w' ⟨rfl,⟨ao,an,g'⟩,d⟩;obtain⟨U,Y⟩:=h.ring (q:=s.queue++[b]) d (λD G=>⟨_,_,_,_,_,_,_,g',(ak a d G).snoc (key d G)⟩);exact⟨_,rfl,U,Y,d⟩
 ·rw[Ϗ hq,ϯ hq];have O:Q.length=s.cfg.room.toNat:=by omega
  have ax:=g.pos
  match hQ:Q,a,O,g,aj,ai with
  | [],_,O,_,_,_=>simp at O;omega
  | c::J,a,O,g,aj,ai=>
   cases hs:s.queue with
   | nil=>rw[hs] at a;exact a.elim
   | cons b0 q0=>
    rw[hs] at a;obtain⟨v,rfl,⟨ar,au,rfl,_⟩,_⟩:=a.1.read;refine(UC w _ _ _ f ar _ au J af ag ad ae css g O H _ I).mono ?_;rintro e w' ⟨rfl,⟨ao,an,g'⟩,d⟩;obtain⟨U,Y⟩:=h.ring (q:=q0++[b]) d (λD G=>⟨_,_,_,_,_,_,_,g',(ak a.2 d G).snoc (key d G)⟩);exact⟨_,rfl,by rw[V1];exact U,Y,d⟩
def Gf (aH:qI w0 w k s F) (b:List Int) (v:Value) (av:SlI .u8 w v b) (ao:Byt b) (ap:b.length<=1000000) (aI:0<=s.cnt.lost/\s.cnt.lost<=1000000000):
  Calls prog 43 #[γ k.R,v] w λe w'=>e= .returned (ι (s.arrive b).2)/\qI w0 w' k (s.arrive b).1 F/\qw F w w':=by
 obtain⟨T,vp,aR,h⟩:=aH;have d:=κ h;have aF:=β7 h.blk;obtain⟨aG,ab⟩:=ν (s.closed);rw[ab] at aF;have ag:=κ ab;clear ab h;cases aG with
 | true=>
  have H:Hid (s.arrive b=(s,7)):=κ (by unfold RmS.arrive;rw[ϓ ag.o]);rw[H.o]
  go_enter func43,ntmps43
  go_wp2;go_ret;exact⟨rfl,d.o.at,qw.refl _ _⟩
 | false=>
  obtain⟨ak,ac⟩:=ν ((!decide (s.queue.length<s.cfg.room.toNat)));obtain⟨J,ad⟩:=ν ((if s.queue.length<s.cfg.room.toNat then s.queue++[b] else s.queue.tail++[b]))
  have H:Hid (s.arrive b=if ak then ({s with queue:=J,cnt:={s.cnt with lost:=s.cnt.lost+1}},0) else ({s with queue:=J},0)):=κ (by
   have aP:=d.o.que.fit;rw[<-ac,<-ad];unfold RmS.arrive;rw[Ϗ (by rw[ag.o];decide)];by_cases hc:s.queue.length<s.cfg.room.toNat
   ·rw[ϓ τ,ϻ hc,ϓ hc];rfl
   ·rw[Ϗ τ,ϯ hc,Ϗ hc]
    rfl)
  have aB:=κ (wQ v b (w.drewN 1) (av.keep (ql.drewN w 1)) ap);have aA:=κ ao;have aC:=κ d.o.fresh;have aJ: ¬RgB k.RQ k.AQ k.R:=by
   obtain⟨au,J,_⟩:=d.o.all .queue;rintro(e | e)
   ·rw[<-e,(d.o.all .room).1] at au;cases au
   ·rw[<-e,(d.o.all .room).1] at J;cases J
  have ay:=λ(x:qz (RgB k.RQ k.AQ) w)=>β10 (x.h.blk d.o.blk aJ)
  obtain⟨aQ,l1⟩:=aI;have aD:Hid ((b.length:Int)<=9223372036854775807):=κ τ;clear av ao ap
  go_enter func43,ntmps43
  go_upto_region 3 with fail
  refine QN (RgB k.RQ k.AQ) w 14 14 [5,6] ?_
  refine Qs5 ?_
  (refine Ql ?_;intro K I)
  (with_reducible refine aB.o.mono ?_)
  rintro e w5 ⟨⟨v5,rfl,O⟩,ar⟩;have N:Hid (ql w w5):=κ ((ql.drewN w 1).trans ar);have aa:=κ (SlI.of_owns O aD.o);have az:Hid (∀g,v5.ownBlock=ϊ g->w.heap.size<=g):=κ (λg G=>jS O G);obtain⟨aK,aL,rfl⟩:=xl O;clear O ar;refine⟨_,rfl,qi (jt.of_more N.o),I _ _ ?_⟩;clear I K ay
  obtain⟨aM,ax,an,_⟩:=(d.o.on N.o).data (λg=>b≠[]/\(δ aK b.length aL).ownBlock=ϊ g) (λg G=>by
   have al:w.heap.size<=g:=az.o g G.2
   exact⟨aC.o g al,ϙ d.o.more.size al,aa.o.old G.1 G.2,λhF=>by have:=(d.o.law g hF).2.2;omega⟩)
  have ah:=κ (Lf ax aa.o aA.o (λaq g G=>⟨an g ⟨aq,G⟩,aa.o.old aq G⟩));rw[ac,ad] at ah;have aE:=κ (d.o.at.stay N.o);clear ax an ac ad
  (refine Ql ?_;intro K I)
  (with_reducible refine ah.o.mono ?_)
  rintro e w6 ⟨aS,rfl,am,aw,aj⟩;have Y:=κ am;have ai:=κ (aE.o.trans aw);have ae:Hid (jt (RgB k.RQ k.AQ) w w6):=κ ((jt.of_more N.o).trans aj);clear am aw aj;refine⟨_,rfl,qi ae.o,I _ _ ?_⟩;clear I K
  iterate 7 (refine qE rfl rfl (qi ae.o) ?_;intro K I;go_big_quiet_op;go_big_quiet_on)
  refine qA ?_;obtain⟨_,_,U⟩:=Y.o.blk;have aN:=β16 U;have aO:=yw U 16;clear U;cases ak with
  | false=>
   go_wp2;go_ret;exact⟨by rw[H.o];rfl,by rw[H.o];exact Y.o,ai.o⟩
  | true=>
   have af:=κ (Y.o.cell 16 (ι (s.cnt.lost+1)) (s':={s with queue:=J,cnt:={s.cnt with lost:=s.cnt.lost+1}}) (λ_ _=>rfl) ⟨rfl,rfl,rfl,rfl,rfl,rfl,rfl,rfl,rfl⟩);go_wp2;go_ret;exact⟨by rw[H.o];rfl,by rw[H.o];exact af.o.1,ai.o.trans af.o.2⟩
def zw.wide {I G:Nat->Prop} {L:Nat} (h:zw I w L l) (H: ∀b,I b->G b) (N: ∀b,G b->b<w.heap.size):zw G w L l:=by
 obtain⟨k,vo,e,x⟩:=h;have J: ∀b,lnE G k vo b->lnE I k vo b:=λb d=>d.elim (λq=>ϑ λn=>q (H b n)) ϕ
 have a:jt (λ_=>False) w w:=jt.refl _ w
 exact⟨k,vo,e,⟨N,λb d=>H b (x.muts b d),x.dist,x.blk,x.r1.step a (λq=>q) (λq=>q) (λb q=>q.elim) (λb d=>ϑ (J b d)),x.r2.step a (λq=>q) (λq=>q) (λb q=>q.elim) (λb d=>ϑ (J b d)),x.r3.step a (λq=>q) (λq=>q) (λb q=>q.elim) (λb d=>ϑ (J b d)),
  ⟨by
   obtain⟨⟨xs,o,r⟩,_⟩:=x.o
   exact⟨xs,o,λi hi=>(r i hi).other λb d=>ϑ (d.elim (λq=>ϑ λn=>q (H b n)) ϕ)⟩,λb d q=>x.o.apart b d (λn=>q (H b n))⟩,x.ok⟩⟩
section
variable {T:Nat->Tg} {w0 w w1 w':World} {k:RmK} {vp vr:Value} {s:RmS} {F:List Nat}
def RmX.laneNew (h:RmX T w0 w k vp vr s F) (m:ql w w1) (U:zw (λb=>w.heap.size<=b/\b<w1.heap.size) w1 p l)
  (ae:jk w' k.ML (Value.int .i64) gj (qx k.LA x p)) (a:jt (λb=>b=k.ML) w1 w'):qI w0 w' {k with LA:=qx k.LA x p} {s with lanes:=qx s.lanes x l} F/\qw F w w':=by
 obtain⟨N,Y⟩:=h.all .lns;have I:=h.fresh;have ag:=Y.lt;have J:jt (λb=>T b= .lane x∨T b= .lns) w w':=(jt.of_more m).trans (a.mono λb d=>ϕ (by rw[d];exact N));have aa:w1.heap.size<=w'.heap.size:=a.size;obtain⟨y,z⟩:=h.own2 (t1:= .lane x) (t2:= .lns) (k':={k with LA:=qx k.LA x p}) (vp':=vp) (vr':=vr) (s':={s with lanes:=qx s.lanes x l}) ⟨η,η⟩ ⟨η,η⟩ J
  ⟨λai l2 G H=>by
   simp only at G H;rw[xD] at G H;injection G with G
   injection H with H
   subst G H;refine(U.away a (λb d ad=>by rw[d] at ad;omega)).wide (λb d=>(jd I η b).2 (ϕ ⟨rfl,d.1,ϗ d.2 aa⟩)) (λb d=> ?_);rcases(jd I η b).1 d with q | q
   ·rcases S3 b w.heap.size with c | c
    ·exact ϗ c J.size
    ·rw[I b c] at q;cases q
   ·exact q.2.2,by simp only[xD];rfl⟩
  ⟨(jF I η η _).2 N,ae⟩
  (λu ab ac ah y=>by
   cases u<;>first | exact y | exact ϧ rfl ac | skip
   rename_i af;have O:af≠x:=λe=>ab (by rw[e])
   unfold RmK.Holds at y ⊢;simp only;rw[vF _ _ O,vF _ _ O]
   exact y)
 exact⟨⟨_,_,_,y⟩,z⟩
def RmX.strNew (h:RmX T w0 w k vp vr s F) {d:Nat} (m:ql w w1) (ae:w.heap.size<=p/\p<w1.heap.size) (ac:w.heap.size<=d/\d<w1.heap.size) (O:p≠d)
  (blk:w1.heap[p]? =ϊ (.cells (gK d t) 109 (0,0))) (buf:xZ w1 d v t.buf) (aj:JOK t.buf) (ab:v.ownBlock=ϋ)
  (ai:jk w' k.MS kO gj (qx k.SA o p)) (a:jt (λb=>b=k.MS) w1 w'):qI w0 w' {k with SA:=qx k.SA o p} {s with strs:=qx s.strs o t} F/\qw F w w':=by
 obtain⟨aa,ad⟩:=h.all .sts;have N:=h.fresh;have al:=ad.lt;have Y:jt (λb=>T b= .str o∨T b= .sts) w w':=(jt.of_more m).trans (a.mono λb G=>ϕ (by rw[G];exact aa));have af:w1.heap.size<=w'.heap.size:=a.size;have U: ∀b,w.heap.size<=b/\b<w1.heap.size->jZ T (.str o) w w' b= .str o:=λb G=>(jd N η b).2 (ϕ ⟨rfl,G.1,ϗ G.2 af⟩)
 obtain⟨y,z⟩:=h.own2 (t1:= .str o) (t2:= .sts) (k':={k with SA:=qx k.SA o p}) (vp':=vp) (vr':=vr) (s':={s with strs:=qx s.strs o t}) ⟨η,η⟩ ⟨η,η⟩ Y
  ⟨λam l2 I J=>by
   simp only at I J;rw[xD] at I J;injection I with I
   injection J with J
   subst I J;refine⟨d,v,a.blk blk τ,⟨a.blk buf.blk τ,buf.row.away a (λg H=>by rw[ab] at H;cases H)⟩,aj,λb G=> ?_,U _ ae,U _ ac,O,λg H=>by rw[ab] at H;cases H⟩;rcases(jd N η b).1 G with q | q
   ·rcases S3 b w.heap.size with c | c
    ·exact ϗ c Y.size
    ·rw[N b c] at q;cases q
   ·exact q.2.2,by simp only[xD];rfl⟩
  ⟨(jF N η η _).2 aa,ai⟩
  (λu ag ah U y=>by
   cases u<;>first | exact y | exact ϧ rfl ah | skip
   rename_i ak;have O:ak≠o:=λe=>ag (by rw[e])
   unfold RmK.Holds at y ⊢;simp only;rw[vF _ _ O,vF _ _ O]
   exact y)
 exact⟨⟨_,_,_,y⟩,z⟩
def Pz {t:TS} (h: ¬(yI t x d).2=0):(yI t x d).1=t:=by
 unfold yI at h ⊢;split
 ·rename_i G;rw[ϓ G] at h;split
  ·rfl
  ·rename_i H;rw[Ϗ H] at h;exact ϧ rfl h
 ·rfl
def Hr (aF:qI w0 w k s F) (an:xY s.cfg=ό) (x d sq st:Int) (aq:U16 sq) (ap:U32 d):
  Calls prog 39 #[γ k.R,ι x,ω d,φ sq,ω st] w λe w'=> ∃k',k'.R=k.R/\e= .returned (ι (s.join x d sq st).2)/\qI w0 w' k' (s.join x d sq st).1 F/\qw F w w':=by
 obtain⟨T,vp,aL,h⟩:=aF;have ab:=κ h;have N:=κ (kF an);have aD:=β7 h.blk;have aJ:=β11 h.blk;obtain⟨aE,ah⟩:=ν (s.closed);rw[ah] at aD;have ad:=κ ah;clear ah h an;cases aE with
 | true=>
  have O:Hid (s.join x d sq st=(s,7)):=κ (by unfold RmS.join;rw[ϓ ad.o]);rw[O.o]
  go_enter func39,ntmps39
  go_wp2;go_ret;exact⟨k,rfl,rfl,ab.o.at,qw.refl _ _⟩
 | false=>
  have aa:=κ (Ld ab.o.tab x d);obtain⟨af,H⟩:=ν ((yI s.tab x d).2);obtain⟨aG,ac⟩:=ν ((yI s.tab x d).1);by_cases e0:af=0
  ·subst e0;have O:Hid (s.join x d sq st=({s with tab:=aG,lanes:=qx s.lanes x (Vd s.cfg.room.toNat s.cfg.most d sq st)},0)):=κ (by unfold RmS.join;rw[Ϗ (by rw[ad.o];decide),ϓ H,ac]);rw[H,ac] at aa;rw[O.o];clear H ac;have aA:=κ (λw'=>Iu s.cfg.room s.cfg.most d sq st s.cfg.room.toNat (by have:=N.o.1;omega) (by have:=N.o.1;omega) (by have:=N.o.1;omega) N.o.2.2.2.1 N.o.2.2.2.2 aq ap w');clear aq ap
   go_enter func39,ntmps39
   go_upto_region 6 with (go_at_call 58;(go_call aa.o as e w1 ⟨rfl,Y,U⟩;have J:=κ (KK ab.o Y U);clear Y U))
   obtain⟨aH,aK,aM,av⟩:=J.o.1;have G:=κ av;clear av;have aj: ¬k.R=k.ML:=λe=>by have q:=(G.o.all .room).1;rw[e,(G.o.all .lns).1] at q;cases q
   have ay: ∀y:qz (λb=>b=k.ML) w1,y.w'.cell? ⟨k.R,12,ϋ⟩=ϊ (.map (ϊ k.ML)):=λy=>qa (y.h.blk G.o.blk aj) 12 rfl
   have ax: ∀y:qz (λb=>b=k.ML) w1,y.w'.cell? ⟨k.R,1,ϋ⟩=ϊ (ι s.cfg.room):=λy=>qa (y.h.blk G.o.blk aj) 1 rfl
   have az: ∀y:qz (λb=>b=k.ML) w1,y.w'.cell? ⟨k.R,6,ϋ⟩=ϊ (ι s.cfg.most):=λy=>qa (y.h.blk G.o.blk aj) 6 rfl
   refine QN (λb=>b=k.ML) w1 24 24 [19,23] ?_
   refine ND ?_
   (refine Ql ?_;intro K I)
   go_call aA.o _ as e w5 ⟨L,rfl,au,ai⟩;have ae:Hid (ql w1 w5):=κ ((ql.drewN w1 1).trans ai);have am:=κ (G.o.on (ql.drewN w1 1));have al:=κ ai;have aB:=κ au;clear ai au;refine⟨_,rfl,qi (jt.of_more ae.o),I _ _ ?_⟩;clear I K
   iterate 3 (refine qE rfl rfl (qi (jt.of_more ae.o)) ?_;intro K I;go_big_quiet_op;go_big_quiet_on)
   clear ay ax az;obtain⟨w9,ar,ao,ag,_⟩:=(am.o.lnm.more al.o).update kE underlying94 x L;have ak:=κ (am.o.laneNew al.o aB.o ao ag);have aC:=κ (G.o.at.stay (ql.drewN w1 1));unfold gj at ar;have aw:Hid (jt (λb=>b=k.ML) w1 w9):=κ ((jt.of_more ae.o).trans ag)
   (refine Ql ?_;intro K I)
   refine⟨qi aw.o,I _ _ ?_⟩;clear I K ao ag ar;refine qA ?_;go_wp2;go_ret;exact⟨{k with LA:=qx k.LA x L},rfl,rfl,ak.o.1,J.o.2.trans (aC.o.trans ak.o.2)⟩
  ·have aI:(af != 0)=ό:=by simp[e0]
   have O:Hid (s.join x d sq st=(s,af)):=κ (by unfold RmS.join;rw[Ϗ (by rw[ad.o];decide),H,Ϗ e0]);rw[Pz (by rw[H];exact e0),H] at aa;rw[O.o];clear H ac e0
   go_enter func39,ntmps39
   go_wp2_with (go_at_call 58;(go_call aa.o as e w1 ⟨rfl,Y,U⟩;have J:=κ (KK ab.o Y U);clear Y U))
   go_ret;exact⟨k,rfl,rfl,J.o.1,J.o.2⟩
end
end Go.Proofs.YtmgaiiffmheabaaGreatDoor
