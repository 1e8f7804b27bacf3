/- x -/
import Derived.Test.YtlmllmonabafjaaGreatDoorMi11
import Derived.Test.YtlmllmonabafjaaGreatDoorMi9
namespace Go.Proofs.YtlmllmonabafjaaGreatDoor
open Option renaming some->ϊ,none->ϋ
open Bool renaming true->ό,false->ύ
open Go.Value renaming bool->μ,slice->δ,pointer->π,agg->θ
open Go.IntKind renaming i64->ι,u8->υ,u16->φ,u32->ω,i32->χ,u64->ψ
open _root_.Go.Proofs.Tryz
set_option linter.all false
set_option maxHeartbeats 8000000
open Go.RowKit
set_option maxRecDepth 100000
variable {w w' w0 W:World} {s s':RmS} {k:RmK} {F:List Nat} {v vp v' vr:Value} {T:Nat->Tg} {L:List Int}
def Kd (b:Bk) (x i f:Int):(jp b x i f).length<=b.length+1:=by
 unfold jp zi;split
 ·split
  ·split
   ·split
    ·exact SD _ _
    ·exact J5 _
   ·exact J5 _
  ·exact J5 _
 ·exact J5 _
def LJ (h:qI w0 w k s F) (sub:Int) (H:s.book.length<=1000000):
  Calls prog 107 #[γ k.B,ι sub,ι 7] w λe w'=>(∃v,e= .returned v)/\qI w0 w' k {s with book:=vM s.book sub 7} F/\qw F w w'/\jt (λx=>x=k.b) w w':=by
 obtain⟨T,vp,I,x⟩:=h;refine(MN x.bok sub 7 H).mono ?_;rintro e w' ⟨⟨v,rfl,_⟩,b,a⟩;obtain⟨d,G⟩:=x.book b a;exact⟨⟨v,rfl⟩,d,G,a⟩
def Lc (h:qI w0 w k s F) (sub:Int):
  Calls prog 123 #[γ k.tb,ι sub] w λe w'=>(∃v,e= .returned v)/\qI w0 w' k {s with tab:=(zM s.tab sub).1} F/\qw F w w'/\jt (λx=>x=k.td) w w':=by
 obtain⟨T,vp,H,x⟩:=h;refine(Zr x.tab sub).mono ?_;rintro e w' ⟨rfl,b,a⟩;obtain⟨d,G⟩:=x.table b (a.mono λ_ e=>ϔ (ϔ e));exact⟨⟨_,rfl⟩,d,G,a⟩
def La (h:qI w0 w k s F) (aa sub:Int) (acc:Bool) {l:LnS} (ay:qh s.lanes sub=ϊ l) (bp:l.W.length<=1000000) (bz:s.book.length<=900000):
  Calls prog 77 #[γ k.R,θ #[ι aa,ι sub],acc] w λe w'=>e= .returned (.tuple #[])/\qI w0 w' k (s.write sub acc) F/\qw F w w':=by
 have aH:=κ (h.stay (ql.alloc w (.cells #[ι aa,ι sub] 37)));have aM:=h.adds (ql.alloc w (.cells #[ι aa,ι sub] 37)) (Fn:=[w.heap.size]) (λb d=>by simp at d;subst d;simp);have ab:=κ (qj w (.cells #[ι aa,ι sub] 37));obtain⟨W1,av⟩:=ν (w.alloc (.cells #[ι aa,ι sub] 37));rw[av] at aM ab aH;obtain⟨T,vp,bE,aA⟩:=aM;have ac:=κ aA;obtain⟨p,aT,aR⟩:=aA.laneAt ay;have bl:=κ aR;have an:=κ aT;have aG:=κ ay;have bb:=λ(x:qt W1)=>β12 (qq x.h ac.o.blk)
 have bd:=λ(x:qt W1)=>β1 (qq x.h ab.o)
 have bc: ∀x:qt W1,(Instr.lookup 90 (.map (ϊ k.ML)) (ι sub) ύ).run prog x.w'= .ok (γ p) x.w':=λx=>by
  have:=xq (ac.o.lnm.more x.h) sub ύ;rw[an.o] at this;exact this
 have aE:=κ (λw (m:ql W1 w)=>As (bl.o.on m) bp acc);obtain⟨Y,id,H,ok,au⟩: ∃Y id H ok,qX l acc=(Y,id,H,ok):=⟨_,_,_,_,rfl⟩;rw[au] at aE;have bm:=κ au;clear h aA ay aT aR au
 go_enter func77,ntmps77
 go_upto_region 1 with fail
 (try rw[av])
 clear av;refine qD _ (ql.refl _) ξ ξ ?_
 repeat (go_big_quiet_step (fail))
 refine wpQuiet_nil ?_;intro _ bq;obtain⟨aX,rfl⟩:=bq;obtain⟨W2,aw⟩:=ν (aX.w');have ap:Hid (ql W1 W2):=κ (by rw[<-aw];exact aX.h);rw[aw];clear aw bb bd bc;obtain⟨c,aQ⟩:=ν ((ok&&decide (H=1)));have am:=κ aQ;clear aQ
 go_upto_region 3 with (go_at_call 121;(go_call aE.o _ ap.o as e G ⟨rfl,aN,a3⟩;obtain⟨aL,t3⟩:=(ac.o.on ap.o).lanePut aG.o an.o aN a3;have aC:=κ aL;have aq:Hid (qw ([w.heap.size]++F) W1 G):=κ ((ac.o.at.stay ap.o).trans t3);clear aN a3 aL t3))
 go_cut [28] from 24 (λv ai=>v= μ c/\ai=G)
 case first=>
  cases ok with
  | false=>
   go_wp2;go_meet;exact⟨by rw[<-am.o];rfl,rfl⟩
  | true=>
   go_wp2;go_meet;exact⟨by rw[<-am.o];by_cases e:H=1<;>simp[e],rfl⟩
 case rest=>
 obtain⟨rfl,bo⟩:=hcut;obtain rfl:=bo.symm
 go_upto_if 28 with fail
 go_cut [] from 29 (λai=>qI w0 ai k {s with lanes:=qx s.lanes sub Y,book:=if c then jp s.book sub id H else s.book} ([w.heap.size]++F)/\qw ([w.heap.size]++F) G ai)
 case first=>
  cases c with
  | false=>
   go_wp2;go_meet;exact⟨aC.o,qw.refl _ _⟩
  | true=>
   have bh:=κ (aq.o.blk η ab.o);obtain⟨bv,bB,bF,O⟩:=aC.o;have ad:=κ O;have bs:k.R≠k.b:=λe=>by
    obtain⟨_,d,_⟩:=O.all .book;rw[<-e,(O.all .room).1] at d;cases d
   have bt:w.heap.size≠k.b:=λe=>by
    obtain⟨_,d,_⟩:=O.all .book;rw[<-e,(O.law (w.heap.size) η).1] at d;cases d
   have aj:=λ(x:qz (λb=>b=k.b) G)=>β0 (x.h.blk ad.o.blk bs)
   have ak:=λ(x:qz (λb=>b=k.b) G)=>β1 (x.h.blk bh.o bt)
   clear O
   go_upto_region 4 with fail
   refine QN (λb=>b=k.b) G 9 9 [8] ?_
   refine Qs8 ?_
   (refine Ql ?_;intro K J)
   go_call gI (ad.o.on (ql.drewN G 1)).bok sub id H as e w4 ⟨rfl,aK,a4⟩;obtain⟨ah,t4⟩:=(ad.o.on (ql.drewN G 1)).book aK a4;have be:=κ ah;have ag:Hid (qw ([w.heap.size]++F) G w4):=κ ((ad.o.at.stay (ql.drewN G 1)).trans t4);have aY:Hid (jt (λb=>b=k.b) G w4):=κ (((jt.refl _ _).drewN 1).trans a4);clear aK a4 ah t4;refine⟨_,rfl,qi aY.o,J _ _ ?_⟩;clear J K;refine qA ?_;go_wp2;go_meet;exact⟨be.o,ag.o⟩
 case rest=>
 obtain⟨ah,t4⟩:=hcut;rename_i w4;have bi:=κ ((aq.o.trans t4).blk η ab.o);have ag:=κ (aH.o.trans ((aq.o.trans t4).sub (F':=F) (λb d=>ϓ _ d)));obtain⟨bw,bC,bG,aB⟩:=ah;have ae:=κ aB;obtain⟨bu,az,aS⟩:=aB.laneAt (x:=sub) (l:=Y) (xD _ _ _);obtain rfl:bu=p:=by rw[an.o] at az;injection az with e;exact e.symm
 have al:=κ (JB aS);clear aB az aS t4;obtain⟨ar,ax⟩:=ν (Y.gone);rw[ax] at al;have bk:=κ ax;clear ax;have aF:Hid (s.write sub acc={s with lanes:=qx s.lanes sub Y,tab:=if ar then (zM s.tab sub).1 else s.tab,book:=if ar then vM (if c then jp s.book sub id H else s.book) sub 7 else if c then jp s.book sub id H else s.book}):=κ (by unfold RmS.write;rw[aG.o];simp only[bm.o];rw[am.o,bk.o]);cases ar with
 | false=>
  go_wp2_with (go_at_call 69;(go_call al.o as e w6 ⟨rfl,N⟩;have af:=κ N;clear N))
  (refine bodyPost_end (v:= .tuple #[]) ?re1 rfl ?_;(case re1=>simp[results,results77,go_sem]))
  exact⟨rfl,by rw[aF.o];exact(ae.o.on af.o).at.sub (λb d=>ϓ _ d),ag.o.trans ((ae.o.at.stay af.o).sub (λb d=>ϓ _ d))⟩
 | true=>
  go_upto_region 6 with (go_at_call 69;(go_call al.o as e w6 ⟨rfl,N⟩;have af:=κ N;have M:=κ (ae.o.on N);have aD:=κ (qq N bi.o);clear N))
  have aU:k.R≠k.b:=λe=>by
   obtain⟨_,d,_⟩:=M.o.all .book;rw[<-e,(M.o.all .room).1] at d;cases d
  have aV:w.heap.size≠k.b:=λe=>by
   obtain⟨_,d,_⟩:=M.o.all .book;rw[<-e,(M.o.law (w.heap.size) η).1] at d;cases d
  have aj:=λ(x:qz (λb=>b=k.b) w6)=>β0 (x.h.blk M.o.blk aU)
  have ak:=λ(x:qz (λb=>b=k.b) w6)=>β1 (x.h.blk aD.o aV)
  refine QN (λb=>b=k.b) w6 8 8 [7] ?_
  refine Qs7 ?_
  (refine Ql ?_;intro K J)
  go_call LJ (M.o.on (ql.drewN w6 1)).at sub (by have:=Kd s.book sub id H;cases c<;>simp<;>omega) as e I ⟨⟨bA,rfl⟩,aO,aW,aJ⟩;have bf:=κ aO;have aI:Hid (qw ([w.heap.size]++F) w6 I):=κ ((M.o.at.stay (ql.drewN w6 1)).trans aW);have aZ:Hid (jt (λb=>b=k.b) w6 I):=κ (((jt.refl _ _).drewN 1).trans aJ);clear aO aW aJ;refine⟨_,rfl,qi aZ.o,J _ _ ?_⟩;clear J K aj ak aU aV;refine qA ?_;have bj:=κ (aI.o.blk η aD.o);obtain⟨bx,bD,bH,U⟩:=bf.o;have ao:=κ U;have br:k.R≠k.td:=λe=>by
   obtain⟨_,_,_,d,_⟩:=U.all .table;rw[<-e,(U.all .room).1] at d;cases d
  have n2:w.heap.size≠k.td:=λe=>by
   obtain⟨_,_,_,d,_⟩:=U.all .table;rw[<-e,(U.law w.heap.size η).1] at d;cases d
  have aj:=λ(x:qz (λb=>b=k.td) I)=>β11 (x.h.blk ao.o.blk br)
  have ak:=λ(x:qz (λb=>b=k.td) I)=>β1 (x.h.blk bj.o n2)
  clear U
  go_upto_region 7 with fail
  refine QN (λb=>b=k.td) I 7 7 [6] ?_
  refine Qs6 ?_
  (refine Ql ?_;intro K J)
  go_call Lc (ao.o.on (ql.drewN I 1)).at sub as e w9 ⟨⟨v9,rfl⟩,aP,t9,a9⟩;have bg:=κ aP;have bn:Hid (qw ([w.heap.size]++F) I w9):=κ ((ao.o.at.stay (ql.drewN I 1)).trans t9);have ba:Hid (jt (λb=>b=k.td) I w9):=κ (((jt.refl _ _).drewN 1).trans a9);clear aP t9 a9;refine⟨_,rfl,qi ba.o,J _ _ ?_⟩;clear J K;refine qA ?_;go_wp2
  (refine bodyPost_end (v:= .tuple #[]) ?re2 rfl ?_;(case re2=>simp[results,results77,go_sem]))
  exact⟨rfl,by rw[aF.o];exact bg.o.sub (λb d=>ϓ _ d),ag.o.trans (((ae.o.at.stay af.o).trans (aI.o.trans bn.o)).sub (λb d=>ϓ _ d))⟩
def Z4 (n sub:Int) (w:World):Calls prog 75 #[θ #[ι n,ι sub]] w λe w'=>e= .returned (ι (xB n))/\ql w w':=by
 by_cases h2:n=2
 ·subst h2
  go_enter func75,ntmps75
  go_wp2;go_ret;exact⟨rfl,ql.alloc _ _⟩
 ·by_cases h3:n=3
  ·subst h3
   go_enter func75,ntmps75
   go_wp2;go_ret;exact⟨rfl,ql.alloc _ _⟩
  ·have e:xB n=3:=by unfold xB;rw[ώ h2,ώ h3]
   have d:(n==2)=ύ:=by simp[h2]
   have G:(n==3)=ύ:=by simp[h3]
   rw[e];clear h2 h3 e
   go_enter func75,ntmps75
   go_wp2;go_ret;exact⟨rfl,ql.alloc _ _⟩
def CM (n sub:Int) (J:0<=n/\n<=4) (w:World):Calls prog 127 #[θ #[ι n,ι sub]] w λe w'=>e= .returned (.tuple #[θ #[ι (vi (n,sub)).1.1,ι (vi (n,sub)).1.2],μ (vi (n,sub)).2])/\ql w w':=by
 have d:=qj (w.alloc (.cells #[ι n,ι sub] 37)) (.cells #[ι 0,ι 0] 37);by_cases h0:n=0
 ·subst h0
  go_enter func127,ntmps127
  go_wp2
  (refine bodyPost_ret (v:= .tuple #[θ #[ι 0,ι 0],ύ]) ?rr1 rfl ?_;(case rr1=>(simp[results,results127,go_sem])))
  exact⟨rfl,ρ⟩
 ·by_cases h1:n=1
  ·subst h1
   go_enter func127,ntmps127
   go_wp2
   (refine bodyPost_ret (v:= .tuple #[θ #[ι 0,ι 0],ό]) ?rr2 rfl ?_;(case rr2=>(simp[results,results127,go_sem])))
   exact⟨rfl,ρ⟩
  ·by_cases h2:n=2
   ·subst h2
    go_enter func127,ntmps127
    go_wp2
    (refine bodyPost_ret (v:= .tuple #[θ #[ι 1,ι 0],ό]) ?rr3 rfl ?_;(case rr3=>(simp[results,results127,go_sem])))
    exact⟨rfl,ρ⟩
   ·have e:vi (n,sub)=((n-1,sub),ό):=by unfold vi;rw[ώ h0,ώ h1,ώ h2]
    have G:(n==0)=ύ:=by simp[h0]
    have H:(n==1)=ύ:=by simp[h1]
    have I:(n==2)=ύ:=by simp[h2]
    rw[e];clear e
    go_enter func127,ntmps127
    go_wp2
    (refine bodyPost_ret (v:= .tuple #[θ #[ι (n-1),ι sub],ό]) ?rr4 rfl ?_;(case rr4=>(simp[results,results127,go_sem])))
    exact⟨rfl,ρ⟩
def PZ {J:Nat->Prop} {p:Nat} {l:LnS} (h:zw J w p l) (n:Int) (M:n=1∨n=2∨n=3):
  Calls prog 126 #[γ p,ι n] w λe w'=>(∃v,e= .returned v/\w'.ownsRow w.heap.size 3 1 v (KG l n).length ((KG l n).map (Value.int .i64)))/\zw (xf J w w') w' p (vh l n)/\jt J w w':=by
 obtain⟨k,vo,rfl,x⟩:=h;rcases M with rfl | rfl | rfl
 ·refine(Z1 x).mono ?_;rintro e w' ⟨d,G,H⟩;exact⟨d,⟨k,vo,rfl,G⟩,H.mono λb I=>x.muts b I⟩
 ·refine(ZZ x).mono ?_;rintro e w' ⟨d,G,H⟩;exact⟨d,⟨k,vo,rfl,G⟩,H.mono λb I=>x.muts b I⟩
 ·refine(ZY x).mono ?_;rintro e w' ⟨d,G,H⟩;exact⟨d,⟨k,vo,rfl,G⟩,H.mono λb I=>x.muts b I⟩
def Kb (n:Int):xB n=1∨xB n=2∨xB n=3:=by
 unfold xB;split
 ·exact ϒ rfl
 ·split
  ·exact ϔ (ϒ rfl)
  ·exact ϔ (ϔ rfl)
def DrJ.step' {R:Nat} {G:Value} {b:Jb} {A:List Int} (d:DrJ w w' R v v' b G A):NQ w w' R v v' b:=⟨d.buf,d.away,d.own⟩
def FD (h:RmX T w0 w k vp vr s F):
  Calls prog 124 #[γ k.RQ] w λe w'=>(∃d cap,e= .returned (δ d s.queue.length cap))/\qI w0 w' k {s with queue:=[]} F/\qw F w w'/\jt (RgB k.RQ k.AQ) w w':=by
 obtain⟨f,q,I,J,H,M,css,g,a⟩:=h.que;have ad: ∀c∈q,∃d n cp,c=[δ d n cp]:=λc ab=>by
  obtain⟨b,_,ae⟩:=a.mem c ab;obtain⟨v,rfl,⟨d,cap,rfl,_⟩,_⟩:=ae.read;exact⟨d,_,cap,rfl⟩
 refine(IL w _ _ _ _ q I J H M css g ad).mono ?_;rintro e w' ⟨v,rfl,ac,⟨U,N,O,g'⟩,G⟩;obtain⟨d,cap,rfl⟩:=zA ac;obtain⟨Y,aa⟩:=h.ring (q:=[]) G (λD _=>⟨U,[],I,J,H,N,O,g',trivial⟩);rw[a.len];exact⟨⟨d,cap,rfl⟩,Y,aa,G⟩
def ZH {base e:Nat} (h:w.ownsRow base e 1 v L.length (L.map (Value.int .i64))):
  ∃oa cap,v= δ oa L.length cap/\L.length<=maxLen/\ ∀w':World,(∀g,base<=g->g<w.heap.size->w'.heap[g]? =w.heap[g]?)-> ∀i (hi:i<L.length),∃g,oa=ϊ ⟨g,0,ϋ⟩/\w'.cell? ⟨g,i,ϋ⟩=ϊ (ι L[i]):=by
 rcases id h.2 with ⟨rfl,d⟩ | ⟨g,cap,cur,rfl,G,H,J,M,_⟩
 ·exact⟨ϋ,0,by rw[d],τ,λw' _ i hi=>by omega⟩
 ·refine⟨_,cap,rfl,τ,λw' e i hi=>⟨g,rfl, ?_⟩⟩;have I:=h.cellAt i τ;rw[World.cell?_of_block (e g G (lt_of_block H)),I,G4,ϖ hi];rfl
def RmX.orgsF {J:Value} (h:RmX T w0 w k vp J s F):
  Calls prog 64 #[γ k.R] w λe w'=> ∃G cap Fn,e= .returned (δ G s.origins.length cap)/\s.origins.length<=9/\RmX T w0 w' k vp J s (Fn++F)/\ql w w'/\
   ∀w'':World,(∀b∈Fn,w''.heap[b]? =w'.heap[b]?)-> ∀i (hi:i<s.origins.length),∃b,G=ϊ ⟨b,0,ϋ⟩/\w''.cell? ⟨b,i* 2,ϋ⟩=ϊ (ι s.origins[i].1)/\w''.cell? ⟨b,i* 2+1,ϋ⟩=ϊ (ι s.origins[i].2):=by
 refine h.orgsRow.mono ?_;rintro e w' ⟨v,rfl,r,m⟩;have O:s.origins.length<=9:=by
  unfold RmS.origins;exact Ϙ (C8 _ _) ζ
 obtain⟨G,cap,rfl,_,U⟩:=KT r;refine⟨G,cap,match G with | some a=>if w.heap.size<=a.block/\a.block<w'.heap.size then [a.block] else [] | none=>[],rfl,O,h.adds m (λb d=> ?_),m,λw'' I i hi=> ?_⟩
 ·cases G with
  | none=>simp at d
  | some a=>
   simp only at d;split at d
   ·rename_i H;simp at d;subst d;exact H
   ·simp at d
 ·obtain⟨b,rfl,N,H,M,c1⟩:=U i hi;simp only[N,H,and_self,A0] at I;have e:=I b η;exact⟨b,rfl,by rw[World.cell?_of_block e];exact M,by rw[World.cell?_of_block e];exact c1⟩
def Kq (L:List Int): ∀s:RmS,(L.foldl RmS.drain1 s).strs=s.strs:=by
 induction L with
 | nil=>intro s;rfl
 | cons x L ih=>intro s;rw[ε,ih];rfl
def Kp (s:RmS) (o x:Og):(qh (s.drainO o).strs x).isSome=(qh s.strs x).isSome:=by
 unfold RmS.drainO;cases ho:qh s.strs o with
 | none=>rfl
 | some t=>
  simp only[Kq,qF];by_cases e:x=o
  ·rw[ϐ e,e,ho];rfl
  ·rw[ώ e]
def Y1 (L:List Og) (x:Og): ∀s:RmS,(qh (L.foldl RmS.drainO s).strs x).isSome=(qh s.strs x).isSome:=by
 induction L with
 | nil=>intro s;rfl
 | cons o L ih=>intro s;rw[ε,ih,Kp]
def QW {j:Nat} (h:j<6):subIds.take (j+1)=subIds.take j++[(j:Int)]:=by
 have:j=0∨j=1∨j=2∨j=3∨j=4∨j=5:=by omega
 rcases this with rfl | rfl | rfl | rfl | rfl | rfl<;>rfl
def UX (L:List Int): ∀s:RmS,(L.foldl RmS.drain1 s).ret=s.ret:=by
 induction L with
 | nil=>intro s;rfl
 | cons x L ih=>intro s;rw[ε,ih];rfl
def UW (s:RmS) (o:Og):(s.drainO o).ret=s.ret:=by
 unfold RmS.drainO;cases qh s.strs o with
 | none=>rfl
 | some t=>simp only[UX]
def PV (s:RmS) (w:Og):(s.drain w).ret=s.ret:=by
 unfold RmS.drain;split
 ·rfl
 ·split
  ·have: ∀(L:List Og) (s:RmS),(L.foldl RmS.drainO s).ret=s.ret:=by
    intro L
    induction L with
    | nil=>intro s;rfl
    | cons o L ih=>intro s;rw[ε,ih,UW]
   exact this _ _
  ·unfold RmS.drainL;cases qh s.lanes w.2<;>rfl
def Xt (h:qI w0 w k s F) (sub id f:Int):
  Calls prog 122 #[θ #[γ k.B],ι sub,ι id,ι f] w λe w'=>e= .returned (.tuple #[])/\qI w0 w' k {s with book:=jp s.book sub id f} F/\qw F w w'/\jt (λb=>b=k.b) w w':=by
 obtain⟨T,vp,H,x⟩:=h;refine(gI x.bok sub id f).mono ?_;rintro e w' ⟨rfl,b,a⟩;obtain⟨d,G⟩:=x.book b a;exact⟨rfl,d,G,a⟩
def qI.blk (h:qI w0 w k s F): ∃vp d,w.heap[k.R]? =ϊ (.cells (zH k vp d s) 95 (0,0)):=by
 obtain⟨T,vp,d,x⟩:=h;exact⟨vp,d,x.blk⟩
def qI.nb (h:qI w0 w k s F):k.R≠k.b/\(∀b∈F,b≠k.b)/\k.b<w.heap.size:=by
 obtain⟨T,vp,I,x⟩:=h;obtain⟨_,d,H⟩:=x.all .book;refine⟨λe=> ?_,λb G e=> ?_,H.map.lt⟩
 ·rw[<-e,(x.all .room).1] at d;cases d
 ·rw[<-e,(x.law b G).1] at d;cases d
def Hm (s s':RmS):Prop:=s'.ret=s.ret/\s'.queue=s.queue/\s'.tab=s.tab/\s'.book=s.book/\s'.lanes=s.lanes/\s'.strs=s.strs/\s'.pks=s.pks/\s'.reqs=s.reqs/\s'.cfg=s.cfg
def qI.self (h:qI w0 w k s F) (a:jt (λb=>b=k.R) w w') (blk: ∀vp d,w.heap[k.R]? =ϊ (.cells (zH k vp d s) 95 (0,0))->w'.heap[k.R]? =ϊ (.cells (zH k vp d s') 95 (0,0))) (r:Hm s s'):qI w0 w' k s' F/\qw F w w':=by
 obtain⟨T,vp,d,x⟩:=h;obtain⟨I,J,M,N,O,U,Y,aa,ab⟩:=r;refine x.self a (blk vp d x.blk) (λu H G y=> ?_);cases u<;>first | exact ϩ rfl H | exact ϩ rfl G | (unfold RmK.Holds at y ⊢;(try simp only[I,J,M,N,O,U,Y,aa,ab]);(try exact y))
def qI.cell (h:qI w0 w k s F) (i:Nat) (v:Value) (e: ∀vp d,(zH k vp d s).setIfInBounds i v=zH k vp d s') (r:Hm s s'):qI w0 (w.setCell ⟨k.R,i,ϋ⟩ v) k s' F/\qw F w (w.setCell ⟨k.R,i,ϋ⟩ v):=
 h.self (jt.set (S:=λb=>b=k.R) (jt.refl _ _) (p:=⟨k.R,i,ϋ⟩) rfl v) (λvp d b=>qB (qp b i v) (e vp d)) r
def IB (h:qI w0 w k s F):w.cell? ⟨k.R,16,ϋ⟩=ϊ (ι s.cnt.lost)/\w.frozen? ⟨k.R,16,ϋ⟩=ύ/\ ∃vp d,w.heap[k.R]? =ϊ (.cells (zH k vp d s) 95 (0,0)):=by
 obtain⟨T,vp,d,x⟩:=h;exact⟨qm x.blk 16 rfl,yw x.blk 16,vp,d,x.blk⟩
def ME (h:qI w0 w k s F) (w1 w2:Int) (acc:Bool) (co:0<=w1/\w1<=4) (ay:2<=w1->(qh s.lanes w2).isSome=ό) (cn:0<=s.cnt.lost/\s.cnt.lost<=1000000000):
  Calls prog 78 #[γ k.R,θ #[ι w1,ι w2],acc] w λe w'=>e= .returned (.tuple #[])/\qI w0 w' k (s.endW (w1,w2)) F/\qw F w w':=by
 have bZ:=κ (h.stay (ql.alloc w (.cells #[ι w1,ι w2] 37)));have bA:=h.adds (ql.alloc w (.cells #[ι w1,ι w2] 37)) (Fn:=[w.heap.size]) (λb G=>by simp at G;subst G;simp);have aB:=κ (qj w (.cells #[ι w1,ι w2] 37));obtain⟨W1,bB⟩:=ν (w.alloc (.cells #[ι w1,ι w2] 37));rw[bB] at bA aB bZ;have bk:=κ bA;have cX:=κ ay;have cY:=κ cn;have dn:=β0 aB.o;obtain⟨cz,cA⟩:=co;clear h bA ay cn
 go_enter func78,ntmps78
 go_upto_block 0 with fail
 (try rw[bB])
 clear bB
 go_cut [5,6,7,8,9,10,11,12] from 17 to 94 (λ_ _ _ _ _ _ _ _ cH=>qI w0 cH k (s.drain (w1,w2)) ([w.heap.size]++F)/\qw ([w.heap.size]++F) W1 cH)
 case first=>
  by_cases e0:w1=0
  ·subst e0;obtain⟨T,vp,bK,I⟩:=bk.o;have H:=κ I;have dx: ¬RgB k.RQ k.AQ k.R:=by
    obtain⟨cD,cE,_⟩:=I.all .queue;rintro(e | e)
    ·rw[<-e,(I.all .room).1] at cD;cases cD
    ·rw[<-e,(I.all .room).1] at cE;cases cE
   have br:=λ(x:qz (RgB k.RQ k.AQ) W1)=>x.h.blk H.o.blk dx
   have dB:=λx=>β16 (br x);have dA:=λx=>β10 (br x);clear br
   have dK:(s.queue.length:Int)<=8:=by have:=I.que.fit;omega
   obtain⟨dL,dM⟩:=cY.o;clear I
   go_upto_region 8 with fail
   refine QN (RgB k.RQ k.AQ) W1 15 16 [9,12,13,15] ?_
   refine Qs9 ?_
   (refine Ql ?_;intro K d)
   go_call FD (H.o.on (ql.drewN W1 1)) as e aR ⟨⟨cC,cap,rfl⟩,aJ,cF,ce⟩;have aA:Hid (jt (RgB k.RQ k.AQ) W1 aR):=κ (((jt.refl _ _).drewN 1).trans ce);have dl:Hid (qw ([w.heap.size]++F) W1 aR):=κ ((H.o.at.stay (ql.drewN W1 1)).trans cF);have aC:=κ aJ;clear aJ cF ce;refine⟨_,rfl,qi aA.o,d _ _ ?_⟩;clear d K
   iterate 2 (refine qE rfl rfl (qi aA.o) ?_;intro K d;go_big_quiet_op;go_big_quiet_on)
   have dh:=κ (IB aC.o);obtain⟨dD,dF,aT⟩:=dh.o
   (refine Ql ?_;intro K d)
   refine⟨qi aA.o,d _ _ ?_⟩;clear d K
   (refine Ql ?_;intro K d)
   refine⟨qi aA.o,d _ _ ?_⟩;clear d K
   iterate 1 (refine qE rfl rfl (qi aA.o) ?_;intro K d;go_big_quiet_op;go_big_quiet_on)
   (refine Qe ?_;intro K d)
   refine d _ _ ?_;clear d K;refine qA ?_;have ae:=aC.o.cell 16 (ι (s.cnt.lost+s.queue.length)) (s':={s with queue:=[],cnt:={s.cnt with lost:=s.cnt.lost+s.queue.length}}) (λ_ _=>rfl) ⟨rfl,rfl,rfl,rfl,rfl,rfl,rfl,rfl,rfl⟩;have ae:=κ ae;go_wp2;go_meet;exact⟨ae.o.1,dl.o.trans ae.o.2⟩
  ·by_cases e1:w1=1
   ·subst e1;obtain⟨T,vp,bK,I⟩:=bk.o;have H:=κ I;clear I;obtain⟨N,bG⟩:=ν (s.origins);have bV:=κ bG;have bW:=κ H.o.orgsF;rw[bG] at bW;clear bG
    go_wp2_with (go_at_call 64;(go_call bW.o as e aQ ⟨cC,cap,Fn,rfl,ci,cI,cx,aN⟩;have bb:=κ aN;have cV:=κ cI.at;have df:=κ cx;have cZ:=κ ci;clear aN cI cx ci))
    have dj:=κ (H.o.at.stay df.o);have aZ:Hid (s.drain (1,w2)=N.foldl RmS.drainO s):=κ (by rw[<-bV.o];rfl);have dJ:=cZ.o
    go_loopw [63] (λaa wr=> ∃j:Nat,j<=N.length/\aa= ι j/\qI w0 wr k ((N.take j).foldl RmS.drainO s) (Fn++([w.heap.size]++F))/\qw (Fn++([w.heap.size]++F)) aQ wr) (λaa _=>N.length-(intOf aa).toNat)
    case atStart=>exact⟨0,τ,rfl,cV.o,qw.refl _ _⟩
    case round=>
     obtain⟨j,du,rfl,M,J⟩:=hrel;have aw:=κ J;by_cases hlt:j<N.length
     ·have bE:(j:Int)<(N.length:Int):=by omega
      obtain⟨g,rfl,bz,c1⟩:=bb.o wr (λb G=>J.2 b (by simp[G])) j hlt;have bq:Hid (N.take (j+1)=N.take j++[N[j]]):=κ (by rw[A8,ϖ hlt];rfl);have ck:(qh ((N.take j).foldl RmS.drainO s).strs N[j]).isSome=ό:=by
       rw[Y1];have:N[j]∈s.origins:=by rw[bV.o];exact ϛ hlt
       obtain⟨t,J⟩:=yB this;rw[J];rfl
      obtain⟨t,bH⟩:=Ϥ.1 ck;have cc:=κ bH;clear ck J;generalize N[j]=o at *;generalize ct:(N.take j).foldl RmS.drainO s=sj at *;have db:=κ ct;clear ct;obtain⟨O,o2⟩:=o;simp only at bz c1;obtain⟨Y,bc⟩:=ν (wr.alloc (.cells #[ι O,ι o2] 58));have cd:Hid (ql wr Y):=κ (by rw[<-bc];exact ql.alloc _ _);have bN:Hid (Y.heap[wr.heap.size]? =ϊ (.cells #[ι O,ι o2] 58 (0,0))):=κ (by rw[<-bc];exact qj wr _);have bw:=κ (aw.o.trans (M.stay cd.o));obtain⟨af,dy,dz,cv⟩:=M;have ah:RmX af w0 Y k dy dz sj ([wr.heap.size]++(Fn++([w.heap.size]++F))):=cv.adds cd.o (λb G=>by simp at G;subst G;exact⟨ϕ _,lt_of_block bN.o⟩);have aE:=κ ah;obtain⟨p,di,v,aM,cw⟩:=ah.strAt bH;have ao:=κ cw;have aD:=κ aM;have bJ: ¬af k.R= .str (O,o2):=by rw[(ah.all .room).1];simp
      have bI: ¬af k.MS= .str (O,o2):=by rw[(ah.all .sts).1];simp
      have dw: ¬af wr.heap.size= .str (O,o2):=by rw[(ah.law wr.heap.size η).1];simp
      have cM:=λ(x:qz (λb=>af b= .str (O,o2)/\b≠p) Y)=>β13 (x.h.blk aE.o.blk (λq=>bJ q.1))
      have bs:=λ(x:qz (λb=>af b= .str (O,o2)/\b≠p) Y)=>x.h.blk bN.o (λq=>dw q.1)
      have av:=λx=>β0 (bs x);have aW:=λx=>β1 (bs x);clear bs
      have bj: ∀x:qz (λb=>af b= .str (O,o2)/\b≠p) Y,(Instr.lookup 91 (.map (ϊ k.MS)) (θ #[ι O,ι o2]) ύ).run prog x.w'= .ok (γ p) x.w':=λx=>by
       have:=ya (aE.o.stm.away x.h (λq=>bI q.1)) (O,o2) ύ;rw[aD.o] at this;exact this
      have cN:=λ(x:qz (λb=>af b= .str (O,o2)/\b≠p) Y)=>β0 (x.h.blk ao.o.blk (λq=>q.2 rfl))
      clear cv ah cw aM bH;have bT:Hid (∀x,(thJ t.buf.holds).foldl RmS.drain1 {sj with strs:=qx sj.strs (O,o2) {t with buf:=vP t.buf}}=x->sj.drainO (O,o2)=x):=κ (λx e=>by unfold RmS.drainO;rw[cc.o];exact e)
      go_upto_region 13 with fail
      (try rw[bc])
      clear bc bz c1;refine zp (λb=>af b= .str (O,o2)/\b≠p) Y 12 [(0,ύ),(1,ύ),(2,ύ),(3,ύ),(4,ύ),(5,ύ),(6,ύ),(7,ύ),(8,ύ),(11,ύ),(9,ό),(10,ύ)] ξ ξ ?_
      refine Nx ?_
      (refine Ql ?_;intro K d)
      go_call Wn t.buf ao.o.ok di v _ (ao.o.buf.on (ql.drewN Y 1)) as e w4 ⟨v4,rfl,v5,aH,_⟩;obtain⟨cg,t4⟩:=(aE.o.on (ql.drewN Y 1)).strBuf cc.o aD.o (ao.o.on (ql.drewN Y 1)) aH.step' aH.ok
      have bM:Hid (jt (λb=>af b= .str (O,o2)/\b≠p) Y w4):=κ (((jt.refl _ _).drewN 1).trans (aH.away.mono (λb G=>by
       rcases G with rfl | G
       ·exact⟨ao.o.nb,C0 ao.o.ne⟩
       ·exact ao.o.nv _ G)))
      obtain⟨dN,dE,rfl,aK,cq⟩:=ZH aH.row;have bY:=κ cq;have cU:=κ cg;have dk:=κ ((aE.o.at.stay (ql.drewN Y 1)).trans t4);have bo:Hid (k.b<Y.heap.size):=κ aE.o.at.nb.2.2;clear cq cg t4 aH;refine⟨_,rfl,qi bM.o,d _ _ ?_⟩;clear d K;obtain⟨L,an⟩:=ν (thJ t.buf.holds);rw[an] at bY bT aK;unfold maxLen at aK;simp only[an];clear an
      iterate 1 (refine qE rfl rfl (qi bM.o) ?_;intro K d;go_big_quiet_op;go_big_quiet_on)
      refine qA ?_;clear cM bj cN av aW;generalize {sj with strs:=qx sj.strs (O,o2) {t with buf:=vP t.buf}}=s4 at *;go_wp2;obtain⟨az,rfl⟩: ∃az:World,az=wr:=⟨_,rfl⟩
      go_loopw [78] (λaa wr=> ∃i:Nat,i<=L.length/\aa= ι i/\qI w0 wr k ((L.take i).foldl RmS.drain1 s4) ([az.heap.size]++(Fn++([w.heap.size]++F)))/\qw ([az.heap.size]++(Fn++([w.heap.size]++F))) w4 wr/\jt (λb=>b=k.b) w4 wr) (λaa _=>L.length-(intOf aa).toNat)
      case atStart=>exact⟨0,τ,rfl,cU.o,qw.refl _ _,jt.refl _ _⟩
      case round=>
       obtain⟨i,hi,rfl,M,J,ab⟩:=hrel;have am:=κ M;have cb:=κ J;have bR:=κ ab;clear M J ab;by_cases hlt2:i<L.length
       ·have dt:(i:Int)<(L.length:Int):=by omega
        obtain⟨dG,rfl,c2⟩:=bY.o wr (λb be dr=>bR.o.block b dr (by have:=bo.o;have be:Y.heap.size<=b:=be;omega)) i hlt2;have dc:Hid (L.take (i+1)=L.take i++[L[i]]):=κ (by rw[A8,ϖ hlt2];rfl);generalize L[i]=id at *;generalize cr:(L.take i).foldl RmS.drain1 s4=s5 at *;have da:=κ cr;clear cr;go_wp2;obtain⟨bh,cu⟩: ∃bh:World,bh=wr:=⟨_,rfl⟩;have dC:=κ cu;obtain rfl:=cu
        go_loopw [82,10] (λaa dO wr=> ∃n:Nat,n<=6/\aa= ι n/\qI w0 wr k {s5 with book:=xG s5.book (subIds.take n) id 8} ([az.heap.size]++(Fn++([w.heap.size]++F)))/\qw ([az.heap.size]++(Fn++([w.heap.size]++F))) bh wr/\jt (λb=>b=k.b) bh wr) (λaa _ _=>6-(intOf aa).toNat)
        case atStart=>exact⟨0,τ,rfl,am.o,qw.refl _ _,jt.refl _ _⟩
        case round=>
         obtain⟨n,co,rfl,M,J,ab⟩:=hrel;have bX:=κ M;have ca:=κ J;have bP:=κ ab;obtain⟨ai,aj,aT⟩:=M.blk;have bz:=β0 aT;clear M J ab;by_cases hlt3:n<6
         ·have dv:(n:Int)<6:=by omega
          have dd:=κ (QW hlt3)
          go_wp2_with (go_at_call 122;(go_call Xt bX.o (n:Int) id 8 as e cG ⟨rfl,aI,aP,aG⟩;have bl:=κ aI;have bx:=κ aP;have aS:=κ aG;clear aI aP aG))
          go_roundw
          case rel=>exact⟨n+1,τ,by go_num,by have:=bl.o;unfold xG at this ⊢;rw[dd.o,Φ];exact this,ca.o.trans bx.o,bP.o.trans aS.o⟩
          case measure=>simp[intOf];omega
         ·obtain rfl:n=6:=by omega
          have dv: ¬((6:Nat):Int)<6:=by omega
          go_wp2;go_roundw
          case rel=>exact⟨i+1,τ,by go_num,by rw[dc.o,Φ,da.o];exact bX.o,cb.o.trans ca.o,bR.o.trans bP.o⟩
          case measure=>simp[intOf];omega
       ·obtain rfl:i=L.length:=by omega
        have dt: ¬(L.length:Int)<(L.length:Int):=by omega
        go_wp2;go_roundw
        case rel=>exact⟨j+1,τ,by go_num,by rw[bq.o,Φ,db.o];have:=am.o;rw[ϱ] at this;rw[<-bT.o _ rfl] at this;obtain⟨ad,ai,aj,U⟩:=this;exact⟨ad,ai,aj,U.sub (λb G=>ϓ _ G)⟩,bw.o.trans ((dk.o.trans cb.o).sub (λb G=>ϓ _ G))⟩
        case measure=>simp[intOf];omega
     ·obtain rfl:j=N.length:=by omega
      have bE: ¬(N.length:Int)<(N.length:Int):=by omega
      go_wp2;go_meet;exact⟨by rw[aZ.o];have:=M;rw[ϱ] at this;obtain⟨ad,ai,aj,U⟩:=this;exact⟨ad,ai,aj,U.sub (λb G=>ϓ _ G)⟩,(dj.o.trans (aw.o.sub (λb G=>ϓ _ G)))⟩
   ·have ch:2<=w1:=by omega
    obtain⟨T,vp,bK,I⟩:=bk.o;have H:=κ I;obtain⟨l,ay⟩:=Ϥ.1 (cX.o ch);obtain⟨p,aM,cm⟩:=I.laneAt ay;have cW:=κ cm;have aD:=κ aM;have bU:=κ ay;have bJ: ¬T k.R= .lane w2:=by rw[(I.all .room).1];simp
    have bI: ¬T k.ML= .lane w2:=by rw[(I.all .lns).1];simp
    have bg: ¬T w.heap.size= .lane w2:=by rw[(I.law w.heap.size η).1];simp
    have cL:=λ(x:qz (λb=>T b= .lane w2) W1)=>β12 (x.h.blk H.o.blk bJ)
    have bt:=λ(x:qz (λb=>T b= .lane w2) W1)=>x.h.blk aB.o bg
    have cP:=λx=>β0 (bt x);have cO:=λx=>β1 (bt x);clear bt
    have bj: ∀x:qz (λb=>T b= .lane w2) W1,(Instr.lookup 90 (.map (ϊ k.ML)) (ι w2) ύ).run prog x.w'= .ok (γ p) x.w':=λx=>by
     have:=xq (H.o.lnm.away x.h bI) w2 ύ;rw[aD.o] at this;exact this
    have dq:(w1==0)=ύ:=by simp[e0]
    have be:(w1==1)=ύ:=by simp[e1]
    have ak:Hid (¬w1=0/\ ¬w1=1):=κ ⟨e0,e1⟩;clear I ay aM cm e0 e1 cz cA ch
    go_upto_region 2 with fail
    refine zp (λb=>T b= .lane w2) W1 12 [(0,ύ),(1,ύ),(2,ύ),(3,ύ),(4,ύ),(5,ύ),(6,ύ),(7,ύ),(11,ύ),(8,ό),(9,ό),(10,ύ)] ξ ξ ?_
    refine Qs9 ?_
    (refine Ql ?_;intro K d)
    go_call Z4 w1 w2 _ as e aR ⟨rfl,md⟩;have ax:Hid (ql W1 aR):=κ ((ql.drewN W1 1).trans md);clear md;refine⟨_,rfl,qi (jt.of_more ax.o),d _ _ ?_⟩;clear d K
    (refine Ql ?_;intro K d)
    go_call PZ (cW.o.on ax.o) (xB w1) (Kb w1) as e aQ ⟨⟨v3,rfl,cp⟩,ah,a3⟩;obtain⟨cf,t3⟩:=(H.o.on ax.o).lanePut bU.o aD.o ah a3;have bL:Hid (jt (λb=>T b= .lane w2) W1 aQ):=κ ((jt.of_more ax.o).trans a3);have bO:=κ cf;have bw:Hid (qw ([w.heap.size]++F) W1 aQ):=κ ((H.o.at.stay ax.o).trans t3);obtain⟨cC,cap,rfl,aK,aN⟩:=ZH cp;have bb:=κ aN;clear cp ah a3 cf t3 aN;refine⟨_,rfl,qi bL.o,d _ _ ?_⟩;clear d K;obtain⟨L,an⟩:=ν (KG l (xB w1));have aZ:Hid (s.drain (w1,w2)={s with lanes:=qx s.lanes w2 (vh l (xB w1)),book:=L.foldl (λb id=>jp b w2 id 8) s.book}):=κ (by unfold RmS.drain RmS.drainL;simp only[ώ ak.o.1,ώ ak.o.2,bU.o,an]);rw[an] at bb aK;unfold maxLen at aK;simp only[an];clear an
    iterate 1 (refine qE rfl rfl (qi bL.o) ?_;intro K d;go_big_quiet_op;go_big_quiet_on)
    refine qA ?_;clear cL cP cO bj;have bo:Hid (k.b<aR.heap.size):=κ (ϗ H.o.at.nb.2.2 ax.o.size);obtain⟨dp,cj⟩:=ν (vh l (xB w1));rw[cj] at bO aZ;clear cj;go_wp2
    go_loopw [28] (λaa wr=> ∃j:Nat,j<=L.length/\aa= ι j/\qI w0 wr k {s with lanes:=qx s.lanes w2 dp,book:=(L.take j).foldl (λb id=>jp b w2 id 8) s.book} ([w.heap.size]++F)/\qw ([w.heap.size]++F) W1 wr/\jt (λb=>b=k.b) aQ wr) (λaa _=>L.length-(intOf aa).toNat)
    case atStart=>exact⟨0,τ,rfl,bO.o,bw.o,jt.refl _ _⟩
    case round=>
     obtain⟨j,du,rfl,M,J,ab⟩:=hrel;have am:=κ M;have aw:=κ J;have bS:=κ ab;clear M J ab;by_cases hlt:j<L.length
     ·have bE:(j:Int)<(L.length:Int):=by omega
      obtain⟨g,rfl,dH⟩:=bb.o wr (λg dI ds=>bS.o.block g ds (by have:=bo.o;omega)) j hlt;have bq:Hid (L.take (j+1)=L.take j++[L[j]]):=κ (by rw[A8,ϖ hlt];rfl);generalize L[j]=id at *
      go_upto_region 5 with fail
      obtain⟨nb,cB,_⟩:=am.o.nb;obtain⟨ai,aj,aT⟩:=am.o.blk;have cK:=κ (aw.o.blk η aB.o);have bg:=cB w.heap.size η;have av:=λ(x:qz (λb=>b=k.b) wr)=>β0 (x.h.blk aT nb)
      have cQ:=λ(x:qz (λb=>b=k.b) wr)=>β1 (x.h.blk cK.o bg)
      refine QN (λb=>b=k.b) wr 8 8 [7] ?_
      refine Qs7 ?_
      (refine Ql ?_;intro K d)
      go_call Xt (am.o.on (ql.drewN wr 1)) w2 id 8 as e cG ⟨rfl,aI,aP,aG⟩;have bl:=κ aI;have bx:=κ aP;have aS:Hid (jt (λb=>b=k.b) wr cG):=κ (((jt.refl _ _).drewN 1).trans aG);clear aI aP aG;refine⟨_,rfl,qi aS.o,d _ _ ?_⟩;clear d K av cQ nb cB bg;refine qA ?_;go_wp2;go_roundw
      case rel=>exact⟨j+1,τ,by go_num,by rw[bq.o,Φ];exact bl.o,aw.o.trans ((am.o.stay (ql.drewN wr 1)).trans bx.o),bS.o.trans aS.o⟩
      case measure=>simp[intOf];omega
     ·obtain rfl:j=L.length:=by omega
      have bE: ¬(L.length:Int)<(L.length:Int):=by omega
      go_wp2;go_meet;exact⟨by rw[aZ.o];have:=am.o;rw[ϱ] at this;exact this,aw.o⟩
 case rest=>
  obtain⟨aJ,J⟩:=hcut;have aC:=κ aJ;have de:=κ J;have bi:=κ (J.blk η aB.o);clear aJ J dn;obtain⟨au,bf⟩:=ν (s.drain (w1,w2));rw[bf] at aC;have dq:=β0 bi.o;have be:=β1 bi.o;obtain⟨ap,bC⟩:=ν ((vi (w1,w2)).1.1);obtain⟨aq,bD⟩:=ν ((vi (w1,w2)).1.2);obtain⟨ok,bF⟩:=ν ((vi (w1,w2)).2);have bQ:=κ (CM w1 w2 ⟨cz,cA⟩ wc);rw[bC,bD,bF] at bQ;have ba:Hid (s.goesR (w1,w2)=(!ok||(qh s.ret (ap,aq)).getD ύ)):=κ (by unfold RmS.goesR;rw[bF,<-bC,<-bD]);have bm:Hid (au.ret=s.ret):=κ (by rw[<-bf];exact PV s _);have bn:=κ bf;clear bf bC bD bF;have bp:=κ (bZ.o.trans (de.o.sub (F':=F) (λb G=>ϓ _ G)))
  go_upto_region 24 with (go_at_call 127;(go_call bQ.o as e w5 ⟨rfl,cy⟩;have dg:=κ cy;clear cy))
  obtain⟨W6,bd⟩:=ν (w5.alloc (.cells #[ι ap,ι aq] 37));have ag:Hid (ql wc W6):=κ (by rw[<-bd];exact dg.o.al _);have cJ:Hid (W6.heap[w5.heap.size]? =ϊ (.cells #[ι ap,ι aq] 37 (0,0))):=κ (by rw[<-bd];exact qj w5 _)
  (try rw[bd])
  clear bd;obtain⟨T,vp,bK,I⟩:=aC.o;have H:=κ I;clear I;have aU:=λ(x:qt W6)=>β8 (qq (ag.o.trans x.h) H.o.blk)
  have bu:=λ(x:qt W6)=>qq (ag.o.trans x.h) bi.o
  have aX:=λx=>β0 (bu x);have aY:=λx=>β1 (bu x);clear bu
  have bv:=λ(x:qt W6)=>qq x.h cJ.o
  have av:=λx=>β0 (bv x);have aW:=λx=>β1 (bv x);clear bv
  have aV: ∀x:qt W6,(Instr.lookup 87 (.map (ϊ k.M1)) (θ #[ι ap,ι aq]) ύ).run prog x.w'= .ok (μ ((qh au.ret (ap,aq)).getD ύ)) x.w':=λx=>VH (H.o.retm.more (ag.o.trans x.h)) (ap,aq)
  rw[bm.o] at aV;obtain⟨g,cl⟩:=ν ((qh s.ret (ap,aq)).getD ύ);rw[cl] at aV ba;clear cl;cases ok with
  | false=>
   have ak:Hid (s.endW (w1,w2)={au with ret:=qx au.ret (w1,w2) ό}):=κ (by unfold RmS.endW;rw[ba.o,bn.o,bm.o];rfl);refine qD _ (ql.refl _) ξ ξ ?_
   repeat (go_big_quiet_step (fail))
   refine wpQuiet_nil ?_;intro _ aO;obtain⟨U,rfl⟩:=aO
   go_upto_region 25 with fail
   obtain⟨W7,ar⟩:=ν (U.w');have ac:Hid (ql W6 W7):=κ (by rw[<-ar];exact U.h)
   (try rw[ar])
   clear ar aV av aW;have cR: ∀x:qt W7,x.w'.cell? ⟨k.R,8,ϋ⟩=ϊ (.map (ϊ k.M1)):=λx=>aU ⟨_,ac.o.trans x.h⟩
   have cS: ∀x:qt W7,x.w'.cell? ⟨w.heap.size,0,ϋ⟩=ϊ (ι w1):=λx=>aX ⟨_,ac.o.trans x.h⟩
   have cT: ∀x:qt W7,x.w'.cell? ⟨w.heap.size,1,ϋ⟩=ϊ (ι w2):=λx=>aY ⟨_,ac.o.trans x.h⟩
   clear aU aX aY;refine Qn W7 5 6 [5] ?_
   refine Qq5 ?_
   have aF:=κ (H.o.on (ag.o.trans (ac.o.trans (ql.drewN W7 1))));obtain⟨w9,M,aL,ab,_⟩:=aF.o.retm.update KX underlying87 (w1,w2) ό;unfold kO at M;have ae:=κ (aF.o.retMap aL ab);have ad:=κ (H.o.at.stay (ag.o.trans (ac.o.trans (ql.drewN W7 1))));clear aL ab
   (refine Qe ?_;intro K d)
   refine d _ _ ?_;clear d K;refine qA ?_;go_wp2
   (refine bodyPost_end (v:= .tuple #[]) ?re1 rfl ?_;(case re1=>simp[results,results78,go_sem]))
   exact⟨rfl,by rw[ak.o];obtain⟨ad,ai,aj,U⟩:=ae.o.1;exact⟨ad,ai,aj,U.sub (λb G=>ϓ _ G)⟩,bp.o.trans ((ad.o.trans ae.o.2).sub (λb G=>ϓ _ G))⟩
  | true=>
   cases g with
   | true=>
    have ak:Hid (s.endW (w1,w2)={au with ret:=qx au.ret (w1,w2) ό}):=κ (by unfold RmS.endW;rw[ba.o,bn.o,bm.o];rfl);refine qD _ (ql.refl _) ξ ξ ?_
    repeat (go_big_quiet_step (fail))
    refine wpQuiet_nil ?_;intro _ aO;obtain⟨U,rfl⟩:=aO
    go_upto_region 25 with fail
    obtain⟨W7,ar⟩:=ν (U.w');have ac:Hid (ql W6 W7):=κ (by rw[<-ar];exact U.h)
    (try rw[ar])
    clear ar aV av aW;have cR: ∀x:qt W7,x.w'.cell? ⟨k.R,8,ϋ⟩=ϊ (.map (ϊ k.M1)):=λx=>aU ⟨_,ac.o.trans x.h⟩
    have cS: ∀x:qt W7,x.w'.cell? ⟨w.heap.size,0,ϋ⟩=ϊ (ι w1):=λx=>aX ⟨_,ac.o.trans x.h⟩
    have cT: ∀x:qt W7,x.w'.cell? ⟨w.heap.size,1,ϋ⟩=ϊ (ι w2):=λx=>aY ⟨_,ac.o.trans x.h⟩
    clear aU aX aY;refine Qn W7 5 6 [5] ?_
    refine Qq5 ?_
    have aF:=κ (H.o.on (ag.o.trans (ac.o.trans (ql.drewN W7 1))));obtain⟨w9,M,aL,ab,_⟩:=aF.o.retm.update KX underlying87 (w1,w2) ό;unfold kO at M;have ae:=κ (aF.o.retMap aL ab);have ad:=κ (H.o.at.stay (ag.o.trans (ac.o.trans (ql.drewN W7 1))));clear aL ab
    (refine Qe ?_;intro K d)
    refine d _ _ ?_;clear d K;refine qA ?_;go_wp2
    (refine bodyPost_end (v:= .tuple #[]) ?re2 rfl ?_;(case re2=>simp[results,results78,go_sem]))
    exact⟨rfl,by rw[ak.o];obtain⟨ad,ai,aj,U⟩:=ae.o.1;exact⟨ad,ai,aj,U.sub (λb G=>ϓ _ G)⟩,bp.o.trans ((ad.o.trans ae.o.2).sub (λb G=>ϓ _ G))⟩
   | false=>
    have ak:Hid (s.endW (w1,w2)=au):=κ (by unfold RmS.endW;rw[ba.o,bn.o];rfl);refine qD _ (ql.refl _) ξ ξ ?_
    repeat (go_big_quiet_step (fail))
    refine wpQuiet_nil ?_;intro _ aO;obtain⟨U,rfl⟩:=aO;go_wp2
    (refine bodyPost_end (v:= .tuple #[]) ?re3 rfl ?_;(case re3=>simp[results,results78,go_sem]))
    have dm:=H.o.at.stay (ag.o.trans U.h);exact⟨rfl,by rw[ak.o];exact⟨_,_,_,(H.o.on (ag.o.trans U.h)).sub (λb G=>ϓ _ G)⟩,bp.o.trans (dm.sub (λb G=>ϓ _ G))⟩
def NoU (w:World) (b:Nat):Prop:= ∀o k n,k≠IntKind.i64->w.cell? ⟨b,o,ϋ⟩≠ϊ (.int k n)
section
variable {S:Nat->Prop} {w w':World}
def SlI.noU {k:IntKind} {l:List Int} (h:SlI k w v l) (N:k≠ .i64) (a:jt S w w') (O: ∀b,S b->NoU w b):SlI k w' v l:=by
 obtain⟨U,cap,H,I,J,M⟩:=h;refine⟨U,cap,H,I,λi hi=> ?_,M⟩;obtain⟨b,Y,e,d,G⟩:=J i hi;exact⟨b,Y,e,ϗ d a.size,by rw[a.cells b _ d (λs=>O b s _ _ _ N G)];exact G⟩
def SlP.noU {α:Type} {n:Nat} {R:qL α} {l:List α} (h:SlP n R w v l) (a:jt S w w') (ae: ∀b,S b->NoU w b)
  (ad: ∀cs x,R w cs x->R w' cs x/\ ∃j k m,j<n/\k≠IntKind.i64/\cs[j]? =ϊ (.int k m)):SlP n R w' v l:=by
 obtain⟨ag,cap,H,I,J,M⟩:=h;refine⟨ag,cap,H,I,λi hi=> ?_,M⟩;obtain⟨b,ah,cs,e,d,ab,G,N⟩:=J i hi;obtain⟨O,j,k,m,U,aa,ac⟩:=ad cs _ N;refine⟨b,ah,cs,e,ϗ d a.size,ab,λaf Y=> ?_,O⟩;rw[a.cells b _ d (λs=>ae b s _ _ _ aa ((G j U).trans ac))];exact G af Y
def Qk.noU {cs:List Value} {x:Itm} (h:Qk w cs x) (a:jt S w w') (d: ∀b,S b->NoU w b):Qk w' cs x/\ ∃j k m,j<17/\k≠IntKind.i64/\cs[j]? =ϊ (.int k m):=by
 obtain⟨vb,H,I,vo,rfl,s,G⟩:=h;refine⟨⟨vb,H,I,vo,rfl,⟨s.bl.noU a d ?_,⟨s.ms.asks.noU a d ?_,s.ms.lost.noU ζ a d⟩,s.bo.noU ζ a d⟩,G⟩,10,_,_,ζ, ?_,rfl⟩
 ·rintro cs x ⟨rfl,h⟩;exact⟨⟨rfl,h⟩,0,_,_,ζ,ζ,rfl⟩
 ·rintro cs x ⟨rfl,h⟩;exact⟨⟨rfl,h⟩,0,_,_,ζ,ζ,rfl⟩
 ·decide
def PC {l:List Itm} (h:SlP 17 Qk w v l) (a:jt S w w') (d: ∀b,S b->NoU w b):SlP 17 Qk w' v l:=h.noU a d λ_ _ G=>G.noU a d
end
def Kf {c:qQ} (G:c.1<=31):(qG c).1.bl.length<=100000:=by
 have d: ∀(r:Rep) (s:RdS),r.bl.length<=100000->(yZ r s).1.bl.length<=100000:=by
  intro r s h;unfold yZ;split
  ·exact h
  ·exact Ψ _
 unfold qG;split
 ·decide
 ·split
  ·exact d _ _ (by simp only;rw[uz];omega)
  ·split
   ·exact d _ _ (by simp only;rw[uz];omega)
   ·decide
def GK {b:List Int} (O:Byt b) (h:(zx b).2=0):(zx b).1.length<=200/\ ∀x∈(zx b).1,CY x:=by
 have d:(jI b).2=0:=by
  cases G:decide ((jI b).2=0) with
  | true=>exact ϟ G
  | false=>
   have:=C1 G;unfold zx at h;rw[ώ this] at h;exact ϩ h this
 obtain⟨J,_,_,M⟩:=QY O (k:=(jI b).1) (by rw[<-d]);obtain⟨_,N,_⟩:=Cc J;have U:(zx b).1=(jI b).1.map λc=>(qv c).1:=by
  unfold zx at h ⊢;rw[ϐ d] at h ⊢;split at h
  ·rename_i H;rw[ϐ H]
  ·rename_i H;exact ϩ h H
 generalize (jI b).1=l at *;rw[U];refine⟨?_,λx Y=> ?_⟩
 ·rw[A6];by_cases d:0<l.length
  ·exact(Xa M 0 d).2
  ·omega
 ·obtain⟨c,G,rfl⟩:=B6.1 Y;obtain⟨aa,_,ab⟩:=(zO c).1 (N c G);have I:=Kg (c:=c) τ;unfold qv;split
  ·exact⟨Kf aa,Ψ _,Ψ _,Ψ _⟩
  split
  ·exact⟨Ψ _,Ψ _,Ψ _,by show c.2.2.1.length<=1000000;omega⟩
  ·exact⟨Ψ _,I.1,I.2,Ψ _⟩
def RmX.ints (h:RmX T w0 w k vp vr s F) (m:ql w w') {M:IntKind} (ab:SlI M w' v L) (Y: ∀q,v.ownBlock=ϊ q->w.heap.size<=q):
  ∃G cap Fn,v= δ G L.length cap/\(L.length:Int)<=9223372036854775807/\RmX T w0 w' k vp vr s (Fn++F)/\ ∀w'':World,(∀b∈Fn,w''.heap[b]? =w'.heap[b]?)-> ∀i (hi:i<L.length),∃b H,G=ϊ ⟨b,H,ϋ⟩/\w''.cell? ⟨b,H+i,ϋ⟩=ϊ (.int M L[i]):=by
 obtain⟨G,cap,rfl,U,aa,_⟩:=ab;refine⟨G,cap,match G with | some a=>if w.heap.size<=a.block/\a.block<w'.heap.size then [a.block] else [] | none=>[],rfl,U,h.adds m (λb d=> ?_),λw'' J i hi=> ?_⟩
 ·cases G with
  | none=>simp at d
  | some a=>
   simp only at d;split at d
   ·rename_i I;simp at d;subst d;exact I
   ·simp at d
 ·obtain⟨b,H,rfl,I,N⟩:=aa i hi;have O:=Y b rfl;simp only[O,I,and_self,A0] at J;have e:=J b η;refine⟨b,H,rfl, ?_⟩;rw[World.cell?_of_block e,N];simp[hi]
def Ub (n:Int) (w:World):Calls prog 89 #[ι n] w λe w'=>e= .returned (μ (jj n))/\w'=w:=by
 have G:Hid (jj n=decide (0<=n/\n<3)):=κ rfl;by_cases h1:0<=n
 ·by_cases h2:n<3
  ·have d:jj n=ό:=by rw[G.o];simp[h1,h2]
   rw[d];clear d G
   go_enter func89,ntmps89
   go_wp2;go_ret;exact⟨rfl,rfl⟩
  ·have d:jj n=ύ:=by rw[G.o];simp[h2]
   rw[d];clear d G
   go_enter func89,ntmps89
   go_wp2;go_ret;exact⟨rfl,rfl⟩
 ·have d:jj n=ύ:=by rw[G.o];simp[h1]
  rw[d];clear d G
  go_enter func89,ntmps89
  go_wp2;go_ret;exact⟨rfl,rfl⟩
def Zy (s:RmS):Prop:= ∀x sb,qh s.tab.u x=ϊ sb->sb.2.1=ό-> ∀n,jj n=ό->(qh s.strs (sb.2.2,n)).isSome=ό
structure zQ (s s':RmS):Prop where
 tab:s'.tab=s.tab
 lanes:s'.lanes=s.lanes
 strs: ∀x,(qh s'.strs x).isSome=(qh s.strs x).isSome
def zQ.refl (s:RmS):zQ s s:=⟨rfl,rfl,λ_=>rfl⟩
def zQ.trans {a b c:RmS} (h:zQ a b) (k:zQ b c):zQ a c:=⟨k.tab.trans h.tab,k.lanes.trans h.lanes,λx=>(k.strs x).trans (h.strs x)⟩
def Um (s:RmS) (x:Int):zQ s (s.tell1 x):=by
 unfold RmS.tell1;cases qh s.tab.u x with
 | none=>exact zQ.refl s
 | some sb=>
  simp only;split
  ·cases qh s.lanes x with
   | none=>exact zQ.refl s
   | some l=>
    simp only;split
    ·cases ht:qh s.strs (sb.2.2,l.cur) with
     | none=>exact zQ.refl s
     | some t=>
      refine⟨rfl,rfl,λo=> ?_⟩;simp only[qF];split
      ·rename_i e;rw[e,ht];rfl
      ·rfl
    ·exact zQ.refl s
  ·exact zQ.refl s
def QV (L:List Int): ∀s:RmS,zQ s (L.foldl RmS.tell1 s):=by
 induction L with
 | nil=>exact zQ.refl
 | cons x L ih=>exact λs=>(Um s x).trans (ih _)
def Ul (L:List Int): ∀s:RmS,zQ s (L.foldl RmS.tellS s):=by
 induction L with
 | nil=>exact zQ.refl
 | cons x L ih=>exact λs=>(QV _ s).trans (ih _)
def zQ.subs (h:zQ s s') (k:zc s):zc s':=⟨by rw[h.tab];exact k.keys,by rw[h.tab,h.lanes];exact k.lane,by rw[h.tab];exact k.few⟩
def zQ.pub (h:zQ s s') (k:Zy s):Zy s':=λx I d G n H=>by
 rw[h.tab] at d;rw[h.strs];exact k x I d G n H
section
variable {w0 w w':World} {k:RmK} {s:RmS} {F F':List Nat}
def qI.noU (h:qI w0 w k s F):NoU w k.R:=by
 obtain⟨T,vp,M,x⟩:=h;obtain⟨xs,d,_⟩:=(x.all .pks).1.row;obtain⟨N,G,_⟩:=(x.all .reqs).1.row;obtain⟨J,c1,rfl⟩:=xl d;obtain⟨o2,c2,rfl⟩:=xl G;intro o I n H;rw[cell_of_row w k.R o _ _ _ x.blk];unfold zH
 match o with
 | 0 | 1 | 2 | 3 | 4 | 5 | 6 | 7 | 8 | 9 | 10 | 11 | 12 | 13 | 14 | 15 | 16 | 17 | 18 | 19 | 20=>simp;try (intro e;exact ϩ e.symm H)
 | n+21=>simp
def Mt (h:qI w0 w k s F) (bz:zc s) (ao:Zy s) (b:List Int) (v:Value) (bK:SlI .u8 w v b) (d:Byt b) (cq:b.length<=1000000) (cn:0<=s.cnt.malf/\s.cnt.malf<=1000000000/\0<=s.cnt.told/\s.cnt.told<=1000000000):
  Calls prog 130 #[γ k.R,v] w λe w'=>e= .returned (.tuple #[])/\qI w0 w' k (s.tell b) F/\qw F w w':=by
 have av:=κ h;have ax:=κ (Dr b v w bK d cq);have am:=κ (GK (b:=b) d);have aL:=κ bz;have bY:=κ ao;obtain⟨cR,cS,t0,t1⟩:=cn;obtain⟨bo,aV⟩:=ν ((zx b).2);have bf:=κ aV;rw[aV] at ax am;obtain⟨cX,cI,rfl,_⟩:=bK;clear h bz ao aV d;by_cases he:bo=0
 ·subst he;have aj:Hid (s.tell b=(xU (zx b).1).foldl RmS.tellS {s with cnt:={s.cnt with told:=s.cnt.told+1}}):=κ (by unfold RmS.tell;rw[ϐ bf.o]);obtain⟨bE,bt⟩:=ν ((zx b).1);rw[bt] at ax am aj;clear bt;obtain⟨bp,bq⟩:=am.o rfl;have bU:=κ bp;have bV:=κ bq;clear bp bq am
  go_enter func130,ntmps130
  go_upto_region 3 with (go_at_call 188;(go_call ax.o as e w1 ⟨bM,rfl,s1,O⟩;have bl:=κ s1;have ci:=κ O;have ab:=κ (av.o.on O);have aC:=κ (av.o.stay O);clear s1 O))
  obtain⟨vp,cr,aa⟩:=ab.o.blk;have cG:=β19 aa;have cK:=yw aa 19;clear aa;have ac:=κ (ab.o.cell 19 (ι (s.cnt.told+1)) (s':={s with cnt:={s.cnt with told:=s.cnt.told+1}}) (λ_ _=>rfl) ⟨rfl,rfl,rfl,rfl,rfl,rfl,rfl,rfl,rfl⟩);have aS:=κ (PC bl.o (jt.set (S:=λb=>b=k.R) (jt.refl _ _) (p:=⟨k.R,19,ϋ⟩) rfl (ι (s.cnt.told+1))) (λb d=>by rw[d];exact ab.o.noU));have bn:=κ (aC.o.trans ac.o.2);obtain⟨W2,br⟩:=ν (w1.setCell ⟨k.R,19,ϋ⟩ (ι (s.cnt.told+1)));rw[br] at ac aS bn;obtain⟨st,aH⟩: ∃st:RmS,{s with cnt:={s.cnt with told:=s.cnt.told+1}}=st:=⟨_,rfl⟩;have aQ:=κ ac.o.1;rw[aH] at aQ aj;have cd:Hid (zc st):=κ (by rw[<-aH];exact⟨aL.o.keys,aL.o.lane,aL.o.few⟩);have bZ:Hid (Zy st):=κ (by rw[<-aH];exact bY.o);have bT:=κ (Wo bE bM W2 aS.o (by have:=bU.o;omega) bV.o);generalize xU bE=A at *;clear aH ac aS ab aC bl ci
  go_wp2_with (first | ((try rw[br]);(go_at_call 189;(go_call bT.o as e ct ⟨cZ,rfl,⟨Y,bH⟩,aY⟩;obtain⟨cy,da,df,bO⟩:=aQ.o;obtain⟨cT,cap,au,rfl,cP,aq,bw⟩:=bO.ints aY Y bH;have cb:=κ bw;have bR:=κ aq.at;have cj:=κ (bn.o.trans (aQ.o.stay aY));clear Y bH aY bO aq bw))))
  go_loopw [41] (λag wr=> ∃j:Nat,j<=A.length/\ag= ι j/\qI w0 wr k ((A.take j).foldl RmS.tellS st) (au++F)/\qw (au++F) ct wr) (λag _=>A.length-(intOf ag).toNat)
  case atStart=>exact⟨0,τ,rfl,bR.o,qw.refl _ _⟩
  case round=>
   obtain⟨j,cO,rfl,ap,J⟩:=hrel;have aw:=κ ap;have aP:=κ J;clear ap J;by_cases hlt:j<A.length
   ·have cp:(j:Int)<(A.length:Int):=by omega
    obtain⟨cD,cV,rfl,cM⟩:=cb.o wr (λb d=>aP.o.2 b (by simp[d])) j hlt;have cg:Hid (A.take (j+1)=A.take j++[A[j]]):=κ (by rw[A8,ϖ hlt];rfl);generalize A[j]=src at *;have bm:=κ (Ul (A.take j) st);generalize bB:(A.take j).foldl RmS.tellS st=sj at *;have ce:=κ bB;clear bB;obtain⟨cB,dd,di,bc⟩:=aw.o;have aN:=κ (bm.o.subs cd.o);have bi:=κ (FO bc.tab src aN.o.keys aN.o.few);obtain⟨L,aD⟩:=ν (prR (zV src) sj.tab.u);have bX:Hid (∀x∈L,∃bb l,qh sj.tab.u x=ϊ bb/\qh sj.lanes x=ϊ l):=κ (λx bC=>by rw[<-aD] at bC;exact Vq aN.o bC);have bW:Hid (sj.tellS src=L.foldl RmS.tell1 sj):=κ (by unfold RmS.tellS;rw[aD]);rw[aD] at bi;have cl:=β11 bc.blk;clear aD bc
    go_wp2_with (go_at_call 190;(go_call bi.o as e w4 ⟨⟨vb,rfl,bJ,bI⟩,aZ⟩;obtain⟨cz,db,dg,aq⟩:=aw.o;obtain⟨cU,cH,bd,rfl,cQ,bP,bx⟩:=aq.ints aZ bJ bI;have cc:=κ bx;have bS:=κ bP.at;have ck:=κ (aP.o.trans (aw.o.stay aZ));clear bJ bI aZ aq bP bx))
    go_loopw [52] (λag wr=> ∃i:Nat,i<=L.length/\ag= ι i/\qI w0 wr k ((L.take i).foldl RmS.tell1 sj) (bd++(au++F))/\qw (bd++(au++F)) w4 wr) (λag _=>L.length-(intOf ag).toNat)
    case atStart=>exact⟨0,τ,rfl,bS.o,qw.refl _ _⟩
    case round=>
     obtain⟨i,hi,rfl,ap,J⟩:=hrel;have M:=κ ap;have ah:=κ J;clear ap J;by_cases hlt2:i<L.length
     ·have co:(i:Int)<(L.length:Int):=by omega
      obtain⟨cE,cW,rfl,cN⟩:=cc.o wr (λb d=>ah.o.2 b (by simp[d])) i hlt2;have aA:Hid (L.take (i+1)=L.take i++[L[i]]):=κ (by rw[A8,ϖ hlt2];rfl);obtain⟨bb,l,aG,aF⟩:=bX.o _ (ϛ hlt2);generalize L[i]=x at *;have aT:=κ (QV (L.take i) sj);generalize bA:(L.take i).foldl RmS.tell1 sj=si at *;have ay:=κ bA;clear bA;rw[<-aT.o.tab] at aG;rw[<-aT.o.lanes] at aF;obtain⟨cA,dc,dh,ar⟩:=M.o;have N:=κ ar;have ca:=κ (aT.o.pub (bm.o.pub bZ.o));obtain⟨pl,bv,bs⟩:=ar.laneAt aF;have ae:=κ (LH ar.tab x);have bg:=κ bs;have bh:=κ aF;have aM:=κ aG;rw[aG] at ae;simp only[ϥ] at ae;have cl:=β11 ar.blk;obtain⟨s1,s2,Y⟩:=bb;simp only at ae
      have aK:Hid (∀w',ql wr w'->(Instr.lookup 90 (.map (ϊ k.ML)) (ι x) ύ).run prog w'= .ok (γ pl) w'):=κ (λw' m=>by
       have:=xq (N.o.lnm.more m) x ύ;rw[bv] at this
       exact this)
      clear ar aF bs aG bv;cases s2 with
      | false=>
       have ad:Hid (si.tell1 x=si):=κ (by unfold RmS.tell1;rw[aM.o];rfl)
       go_wp2_with (go_at_call 90;(go_call ae.o as e w5 ⟨rfl,G⟩;have H:=κ G;clear G))
       go_roundw
       case rel=>exact⟨i+1,τ,by go_num,by rw[aA.o,Φ,ay.o];show qI w0 _ k (si.tell1 x) _;rw[ad.o];exact M.o.on H.o,ah.o.trans (M.o.stay H.o)⟩
       case measure=>simp[intOf];omega
      | true=>
       obtain⟨bG,aX⟩:=ν (l.wanted);obtain⟨I,aW⟩:=ν (l.cur);obtain⟨bF,bu⟩:=ν (l.tgt);have az:=κ (λw m=>Xb (bg.o.on (w':=w) m));rw[aX,aW,bu] at az;have ad:Hid (si.tell1 x=if bG&&jj I then (match qh si.strs (Y,I) with | none=>si | some t=>{si with strs:=qx si.strs (Y,I) {t with askedOf:=ό}}) else si):=κ (by unfold RmS.tell1;rw[aM.o];simp only[bh.o,A0];rw[aX,aW];rfl);clear aX aW bu bg bh;cases bG with
       | false=>
        have ak:Hid (si.tell1 x=si):=κ (by rw[ad.o];rfl)
        go_wp2_with (first | (go_at_call 90;(go_call ae.o as e w5 ⟨rfl,G⟩;have H:=κ G;have aU:=β12 (qq G N.o.blk);have ba:=aK.o w5 G;clear G)) | (go_at_call 67;(go_call az.o _ H.o as e w6 ⟨rfl,U⟩;have af:=κ U;clear U)) | (go_at_call 89;(go_call aO.o _ as e bN ⟨rfl,rfl⟩)))
        go_roundw
        case rel=>exact⟨i+1,τ,by go_num,by rw[aA.o,Φ,ay.o];show qI w0 _ k (si.tell1 x) _;rw[ak.o];exact M.o.on ((H.o.trans af.o).al _),ah.o.trans (M.o.stay ((H.o.trans af.o).al _))⟩
        case measure=>simp[intOf];omega
       | true=>
        obtain⟨bL,aI⟩:=ν (jj I);have aO:Hid (∀w,Calls prog 89 #[ι I] w λe w'=>e= .returned (μ bL)/\w'=w):=κ (λw=>by rw[<-aI];exact Ub I w);rw[aI] at ad;have ch:=κ aI;clear aI;cases bL with
        | false=>
         have ak:Hid (si.tell1 x=si):=κ (by rw[ad.o];rfl)
         go_wp2_with (first | (go_at_call 90;(go_call ae.o as e w5 ⟨rfl,G⟩;have H:=κ G;have aU:=β12 (qq G N.o.blk);have ba:=aK.o w5 G;clear G)) | (go_at_call 67;(go_call az.o _ H.o as e w6 ⟨rfl,U⟩;have af:=κ U;clear U)) | (go_at_call 89;(go_call aO.o _ as e bN ⟨rfl,rfl⟩)))
         go_roundw
         case rel=>exact⟨i+1,τ,by go_num,by rw[aA.o,Φ,ay.o];show qI w0 _ k (si.tell1 x) _;rw[ak.o];exact M.o.on ((H.o.trans af.o).al _),ah.o.trans (M.o.stay ((H.o.trans af.o).al _))⟩
         case measure=>simp[intOf];omega
        | true=>
         obtain⟨t,J⟩:=Ϥ.1 (ca.o x _ aM.o rfl I ch.o);have ak:Hid (si.tell1 x={si with strs:=qx si.strs (Y,I) {t with askedOf:=ό}}):=κ (by rw[ad.o];simp only[J];rfl);obtain⟨p,cx,de,ao,bD⟩:=N.o.strAt J;have cf:=κ J;have bj:=κ ao;have bk:=κ bD;clear J ao bD ad
         go_upto_region 14 with (first | (go_at_call 90;(go_call ae.o as e w5 ⟨rfl,G⟩;have H:=κ G;have aU:=β12 (qq G N.o.blk);have ba:=aK.o w5 G;clear G)) | (go_at_call 67;(go_call az.o _ H.o as e w6 ⟨rfl,U⟩;have af:=κ U;clear U)) | (go_at_call 89;(go_call aO.o _ as e bN ⟨rfl,cm⟩;obtain rfl:=cm.symm)))
         obtain⟨ai,aE⟩:=ν (w6.alloc (.cells #[ι I,ι bF] 103));have aR:Hid (ql wr ai):=κ (by rw[<-aE];exact(H.o.trans af.o).al _);have bQ:Hid (ai.heap[w6.heap.size]? =ϊ (.cells #[ι I,ι bF] 103 (0,0))):=κ (by rw[<-aE];exact qj w6 _)
         (try rw[aE])
         clear aE aU ba;have cu:=λ(x:qt ai)=>β13 (qq (aR.o.trans x.h) N.o.blk)
         have cw:=λ(x:qt ai)=>β0 (qq x.h bQ.o)
         have cv: ∀x:qt ai,(Instr.lookup 91 (.map (ϊ k.MS)) (θ #[ι Y,ι I]) ύ).run prog x.w'= .ok (γ p) x.w':=λx=>by
          have:=ya (N.o.stm.more (aR.o.trans x.h)) (Y,I) ύ;rw[bj.o] at this;exact this
         refine Qn ai 11 12 [9,11] ?_
         refine Qq9 ?_
         (refine Ql ?_;intro K an)
         refine⟨qk ρ,an _ _ ?_⟩;clear an K
         refine Qq1 ?_
         have aB:=κ (aR.o.dr 1);have aJ:=κ (qq aB.o bk.o.blk);have cY:=β7 aJ.o;have cL:=yw aJ.o 7;have be:=κ ((N.o.on aB.o).strSet (t':={t with askedOf:=ό}) cf.o bj.o (bk.o.on aB.o) (jt.set (S:=λb=>b=p) (jt.refl _ _) (p:=⟨p,7,ϋ⟩) rfl (μ ό)) (qB (qp aJ.o 7 _) rfl) rfl)
         (refine Qe ?_;intro K an)
         refine an _ _ ?_;clear an K;refine qA ?_;go_wp2;go_roundw
         case rel=>exact⟨i+1,τ,by go_num,by rw[aA.o,Φ,ay.o];show qI w0 _ k (si.tell1 x) _;rw[ak.o];exact be.o.1,ah.o.trans ((M.o.stay aB.o).trans be.o.2)⟩
         case measure=>simp[intOf];omega
     ·obtain rfl:i=L.length:=by omega
      have co: ¬(L.length:Int)<(L.length:Int):=by omega
      go_wp2;go_roundw
      case rel=>exact⟨j+1,τ,by go_num,by rw[cg.o,Φ,ce.o];show qI w0 _ k (sj.tellS src) _;rw[bW.o];have:=M.o;rw[ϱ] at this;exact this.sub (λb d=>ϓ _ d),ck.o.trans (ah.o.sub (λb d=>ϓ _ d))⟩
      case measure=>simp[intOf];omega
   ·obtain rfl:j=A.length:=by omega
    have cp: ¬(A.length:Int)<(A.length:Int):=by omega
    go_wp2
    (refine bodyPost_end (v:= .tuple #[]) ?re1 rfl ?_;(case re1=>simp[results,results130,go_sem]))
    exact⟨rfl,by rw[aj.o];have:=aw.o;rw[ϱ] at this;exact this.sub (λb d=>ϓ _ d),cj.o.trans (aP.o.sub (λb d=>ϓ _ d))⟩
 ·have aj:Hid (s.tell b={s with cnt:={s.cnt with malf:=s.cnt.malf+1}}):=κ (by unfold RmS.tell;rw[bf.o,ώ he]);have cC:(bo != 0)=ό:=by simp[he]
  clear he am
  go_enter func130,ntmps130
  go_upto_region 2 with (go_at_call 188;(go_call ax.o as e w1 ⟨bM,rfl,s1,O⟩;have ab:=κ (av.o.on O);have aC:=κ (av.o.stay O);clear s1 O))
  obtain⟨vp,cr,aa⟩:=ab.o.blk;have cF:=β17 aa;have cJ:=yw aa 17;clear aa;have ac:=κ (ab.o.cell 17 (ι (s.cnt.malf+1)) (s':={s with cnt:={s.cnt with malf:=s.cnt.malf+1}}) (λ_ _=>rfl) ⟨rfl,rfl,rfl,rfl,rfl,rfl,rfl,rfl,rfl⟩);go_wp2
  (refine bodyPost_ret (v:= .tuple #[]) ?re2 rfl ?_;(case re2=>simp[results,results130,go_sem]))
  exact⟨rfl,by rw[aj.o];exact ac.o.1,aC.o.trans ac.o.2⟩
end
section
variable {T:Nat->Tg} {w0 w w':World} {k k':RmK} {vp vr vp' vr':Value} {s s':RmS} {F:List Nat} {t1 t2:Tg}
def RmX.own2 (h:RmX T w0 w k vp vr s F) (H:t1≠ .no/\t1≠ .data) (J:t2≠ .no/\t2≠ .data) (a:jt (λb=>T b=t1∨T b=t2) w w')
  (Y:k'.Holds (jZ T t1 w w') w' vp' vr' s' t1) (aa:k'.Holds (jZ T t1 w w') w' vp' vr' s' t2)
  (rest: ∀u,u≠t1->u≠t2->u≠ .no->k.Holds (jZ T t1 w w') w' vp vr s u->k'.Holds (jZ T t1 w w') w' vp' vr' s' u):RmX (jZ T t1 w w') w0 w' k' vp' vr' s' F/\qw F w w':=by
 have I:=h.fresh
 have U: ∀b,(T b=t1∨T b=t2)->w0.heap.size<=b:=λb d=>h.ge b (by
  rcases d with d | d
  ·rw[d];exact H.1
  ·rw[d];exact J.1)
 refine⟨⟨λu=> ?_,λb d=> ?_,λb d=> ?_,a.to_more h.more U⟩,a.size,λb d=>a.block b (h.law b d).2.2 (λe=>by
  rcases e with e | e
  ·exact H.1 (by rw[<-e];exact(h.law b d).1)
  ·exact J.1 (by rw[<-e];exact(h.law b d).1))⟩
 ·by_cases e:u=t1
  ·subst e;exact Y
  ·by_cases e2:u=t2
   ·subst e2;exact aa
   ·by_cases en:u= .no
    ·subst en;exact Q9 I a.size
    ·refine rest u e e2 en (Holds.frame (h.all u) a (λb d=>⟨λG=> ?_,λG=> ?_⟩) (λb=>jF I en e b) (λb d=> ?_) en)
     ·rcases d with d | d
      ·exact e (G.symm.trans d)
      ·exact e2 (G.symm.trans d)
     ·rcases d with d | d
      ·exact H.2 (d.symm.trans G)
      ·exact J.2 (d.symm.trans G)
     ·exact(jF I η (C0 H.2) b).2 d
 ·unfold jZ at d;split at d
  ·have:=h.more.size;omega
  ·exact h.ge b d
 ·obtain⟨M,N,O⟩:=h.law b d;refine⟨?_,N,ϗ O a.size⟩;unfold jZ;rw[ώ τ];exact M
def VO (H: ∀b,w.heap.size<=b->T b= .no) {t:Tg} (J:t≠ .no) (M: ∀g,v.ownBlock=ϊ g->T g=t) (G:w.heap.size<=W.heap.size) (N:v'.ownBlock=v.ownBlock∨v'.ownBlock=ϊ W.heap.size) (I: ∀g,v'.ownBlock=ϊ g->g<w'.heap.size):
  ∀g,v'.ownBlock=ϊ g->jZ T t w w' g=t:=λg d=>(jd H J g).2 (by
 rcases N with e | e
 ·exact ϒ (M g (by rw[<-e];exact d))
 ·rw[e] at d;injection d with d
  subst d
  exact ϔ ⟨rfl,G,I _ e⟩)
def RmX.pksPut (h:RmX T w0 w k vp vr s F) {y:AcS} (a:jt (λb=>vp.ownBlock=ϊ b∨b=k.R) w w') (U:w.heap.size<=W.heap.size)
  (row:je 13 RAc (λb=>(T b≠ .data/\T b≠ .pks)/\b<w.heap.size) w' 0 65 v' (s.pks++[y])) (ab:v'.ownBlock=vp.ownBlock∨v'.ownBlock=ϊ W.heap.size)
  (M:w'.heap[k.R]? =ϊ (.cells (zH k v' vr s) 95 (0,0))):qI w0 w' k {s with pks:=s.pks++[y]} F/\qw F w w':=by
 obtain⟨I,_⟩:=h.all .room;obtain⟨_,J⟩:=h.all .pks;have G:=h.fresh;have aa:je 13 RAc (λb=>jZ T .pks w w' b≠ .data/\jZ T .pks w w' b≠ .pks) w' 0 65 v' (s.pks++[y]):=row.other λb d=>by
  by_cases e:b<w.heap.size
  ·refine ϒ ⟨⟨λH=>d.1 ((jF G η η _).2 H),λH=>d.2 ((jd G η _).2 (ϒ H))⟩,e⟩
  ·by_cases e3:b<w'.heap.size
   ·exact ϩ ((jd G η _).2 (ϔ ⟨rfl,τ,e3⟩)) d.2
   ·exact ϔ τ
 obtain⟨x,y⟩:=h.own2 (k':=k) (t1:= .pks) (t2:= .room) (vp':=v') (vr':=vr) (s':={s with pks:=s.pks++[y]}) ⟨η,η⟩ ⟨η,η⟩ (a.mono λb d=>by
   rcases d with d | rfl
   ·exact ϒ (J b d)
   ·exact ϔ I)
  ⟨aa,VO G η J U ab (λg Y=>row.lt Y)⟩
  ⟨(jF G η η _).2 I,M⟩
  (λu N O ac z=>by cases u<;>first | exact z | exact ϩ rfl N | exact ϩ rfl O)
 exact⟨⟨_,_,_,x⟩,y⟩
def RmX.reqsPut (h:RmX T w0 w k vp vr s F) {y:RqS} (a:jt (λb=>vr.ownBlock=ϊ b∨b=k.R) w w') (U:w.heap.size<=W.heap.size)
  (row:je 4 RRq (λb=>(T b≠ .data/\T b≠ .reqs)/\b<w.heap.size) w' 0 296 v' (s.reqs++[y])) (ab:v'.ownBlock=vr.ownBlock∨v'.ownBlock=ϊ W.heap.size)
  (M:w'.heap[k.R]? =ϊ (.cells (zH k vp v' s) 95 (0,0))):qI w0 w' k {s with reqs:=s.reqs++[y]} F/\qw F w w':=by
 obtain⟨I,_⟩:=h.all .room;obtain⟨_,J⟩:=h.all .reqs;have G:=h.fresh;have aa:je 4 RRq (λb=>jZ T .reqs w w' b≠ .data/\jZ T .reqs w w' b≠ .reqs) w' 0 296 v' (s.reqs++[y]):=row.other λb d=>by
  by_cases e:b<w.heap.size
  ·refine ϒ ⟨⟨λH=>d.1 ((jF G η η _).2 H),λH=>d.2 ((jd G η _).2 (ϒ H))⟩,e⟩
  ·by_cases e3:b<w'.heap.size
   ·exact ϩ ((jd G η _).2 (ϔ ⟨rfl,τ,e3⟩)) d.2
   ·exact ϔ τ
 obtain⟨x,y⟩:=h.own2 (k':=k) (t1:= .reqs) (t2:= .room) (vp':=vp) (vr':=v') (s':={s with reqs:=s.reqs++[y]}) ⟨η,η⟩ ⟨η,η⟩ (a.mono λb d=>by
   rcases d with d | rfl
   ·exact ϒ (J b d)
   ·exact ϔ I)
  ⟨aa,VO G η J U ab (λg Y=>row.lt Y)⟩
  ⟨(jF G η η _).2 I,M⟩
  (λu N O ac z=>by cases u<;>first | exact z | exact ϩ rfl N | exact ϩ rfl O)
 exact⟨⟨_,_,_,x⟩,y⟩
def Ns (h:qI w0 w k s F) (sub id:Int):
  Calls prog 193 #[γ k.B,θ #[ι sub,ι id]] w λe w'=>(∃v,e= .returned (ι v))/\qI w0 w' k {s with book:=(vT s.book (sub,id)).1} F/\qw F w w'/\jt (λx=>x=k.b) w w':=by
 obtain⟨T,vp,H,x⟩:=h;refine(Nu x.bok (sub,id)).mono ?_;rintro e w' ⟨rfl,b,a⟩;obtain⟨d,G⟩:=x.book b a;exact⟨⟨_,rfl⟩,d,G,a⟩
end
end Go.Proofs.YtlmllmonabafjaaGreatDoor
