/- Contracts of the functions that the law reaches, and plain laws; no conditions but those written at each. -/
import Derived.Test.YtlmllmonabafjaaGreatDoorMg18
namespace Go.Proofs.YtlmllmonabafjaaGreatDoor
open Go.Value renaming bool->μ,slice->δ,pointer->π,agg->θ
open Go.IntKind renaming i64->ι,u8->υ,u16->φ,u32->ω,i32->χ,u64->ψ
open _root_.Go.Proofs.Tryz
set_option linter.unusedSimpArgs false
set_option maxHeartbeats 8000000
set_option linter.unusedVariables false
open Go.RowKit
set_option maxRecDepth 100000
section
variable {w0 w w':World} {k:RmK} {s:RmS} {F:List Nat}
theorem Kd (b:Bk) (x i f:Int):(jp b x i f).length<=b.length+1:=by
 unfold jp zi;split
 ·split
  ·split
   ·split
    ·exact OP _ _
    ·exact Nat.le_succ _
   ·exact Nat.le_succ _
  ·exact Nat.le_succ _
 ·exact Nat.le_succ _
theorem LJ (h:qI w0 w k s F) (sub:Int) (H:s.book.length<=1000000):
  Calls prog 107 #[γ k.B,ι sub,ι 7] w λe w'=>(∃v,e= .returned v)/\qI w0 w' k {s with book:=vM s.book sub 7} F/\qw F w w'/\qg (λx=>x=k.b) w w':=by
 obtain⟨T,vp,I,x⟩:=h;refine(MN x.bok sub 7 H).mono ?_;rintro e w' ⟨⟨v,rfl,_⟩,b,a⟩;obtain⟨d,G⟩:=x.book b a;exact⟨⟨v,rfl⟩,d,G,a⟩
theorem Lc (h:qI w0 w k s F) (sub:Int):
  Calls prog 123 #[γ k.tb,ι sub] w λe w'=>(∃v,e= .returned v)/\qI w0 w' k {s with tab:=(zM s.tab sub).1} F/\qw F w w'/\qg (λx=>x=k.td) w w':=by
 obtain⟨T,vp,H,x⟩:=h;refine(Zr x.tab sub).mono ?_;rintro e w' ⟨rfl,b,a⟩;obtain⟨d,G⟩:=x.table b (a.mono λ_ e=>Or.inr (Or.inr e));exact⟨⟨_,rfl⟩,d,G,a⟩
theorem La (h:qI w0 w k s F) (ab sub:Int) (acc:Bool) {l:LnS} (az:qh s.lanes sub=some l) (bq:l.W.length<=1000000) (bA:s.book.length<=900000):
  Calls prog 77 #[γ k.R,θ #[ι ab,ι sub],acc] w λe w'=>e= .returned (.tuple #[])/\qI w0 w' k (s.write sub acc) F/\qw F w w':=by
 have aI:=κ (h.stay (qa.alloc w (.cells #[ι ab,ι sub] 37)));have aN:=h.adds (qa.alloc w (.cells #[ι ab,ι sub] 37)) (Fn:=[w.heap.size]) (λb d=>by simp at d;subst d;simp);have ac:=κ (qj w (.cells #[ι ab,ι sub] 37));obtain⟨W1,aw⟩:=ν (w.alloc (.cells #[ι ab,ι sub] 37));rw[aw] at aN ac aI;obtain⟨T,vp,bE,aB⟩:=aN;have ad:=κ aB;obtain⟨p,aU,aS⟩:=aB.laneAt az;have bm:=κ aS;have ao:=κ aU;have aH:=κ az;have bc:=λ(x:qt W1)=>β12 (qc x.h ad.o.blk)
 have be:=λ(x:qt W1)=>β1 (qc x.h ac.o)
 have bd: ∀x:qt W1,(Instr.lookup 90 (.map (some k.ML)) (ι sub) false).run prog x.w'= .ok (γ p) x.w':=λx=>by
  have:=xq (ad.o.lnm.more x.h) sub false;rw[ao.o] at this;exact this
 have aF:=κ (λw (m:qa W1 w)=>As (bm.o.on m) bq acc);obtain⟨aa,id,H,ok,av⟩: ∃aa id H ok,qX l acc=(aa,id,H,ok):=⟨_,_,_,_,rfl⟩;rw[av] at aF;have bn:=κ av;clear h aB az aU aS av
 go_enter func77,ntmps77
 go_upto_region 1 with fail
 (try rw[aw])
 clear aw;refine qD _ (qa.refl _) ξ ξ ?_
 repeat (go_big_quiet_step (fail))
 refine wpQuiet_nil ?_;intro _ br;obtain⟨aY,rfl⟩:=br;obtain⟨W2,ax⟩:=ν (aY.w');have aq:Hid (qa W1 W2):=κ (by rw[<-ax];exact aY.h);rw[ax];clear ax bc be bd;obtain⟨c,aR⟩:=ν ((ok&&decide (H=1)));have an:=κ aR;clear aR
 go_upto_region 3 with (go_at_call 121;(go_call aF.o _ aq.o as e G ⟨rfl,aO,a3⟩;obtain⟨aM,t3⟩:=(ad.o.on aq.o).lanePut aH.o ao.o aO a3;have aD:=κ aM;have ar:Hid (qw ([w.heap.size]++F) W1 G):=κ ((ad.o.at.stay aq.o).trans t3);clear aO a3 aM t3))
 go_cut [28] from 24 (λv aj=>v= μ c/\aj=G)
 case first=>
  cases ok with
  | false=>
   go_wp2;go_meet;exact⟨by rw[<-an.o];rfl,rfl⟩
  | true=>
   go_wp2;go_meet;exact⟨by rw[<-an.o];by_cases e:H=1<;>simp[e],rfl⟩
 case rest=>
 obtain⟨rfl,bp⟩:=hcut;obtain rfl:=bp.symm
 go_upto_if 28 with fail
 go_cut [] from 29 (λaj=>qI w0 aj k {s with lanes:=qx s.lanes sub aa,book:=if c then jp s.book sub id H else s.book} ([w.heap.size]++F)/\qw ([w.heap.size]++F) G aj)
 case first=>
  cases c with
  | false=>
   go_wp2;go_meet;exact⟨aD.o,qw.refl _ _⟩
  | true=>
   have bi:=κ (ar.o.blk η ac.o);obtain⟨bw,bB,bF,U⟩:=aD.o;have ae:=κ U;have bt:k.R≠k.b:=λe=>by
    obtain⟨_,d,_⟩:=U.all .book;rw[<-e,(U.all .room).1] at d;cases d
   have bu:w.heap.size≠k.b:=λe=>by
    obtain⟨_,d,_⟩:=U.all .book;rw[<-e,(U.law (w.heap.size) η).1] at d;cases d
   have ak:=λ(x:qz (λb=>b=k.b) G)=>β0 (x.h.blk ae.o.blk bt)
   have al:=λ(x:qz (λb=>b=k.b) G)=>β1 (x.h.blk bi.o bu)
   clear U
   go_upto_region 4 with fail
   refine QN (λb=>b=k.b) G 9 9 [8] ?_
   refine Qs8 ?_
   (refine Ql ?_;intro K J)
   go_call gI (ae.o.on (qa.drewN G 1)).bok sub id H as e w4 ⟨rfl,aL,a4⟩;obtain⟨ai,t4⟩:=(ae.o.on (qa.drewN G 1)).book aL a4;have bf:=κ ai;have ah:Hid (qw ([w.heap.size]++F) G w4):=κ ((ae.o.at.stay (qa.drewN G 1)).trans t4);have aZ:Hid (qg (λb=>b=k.b) G w4):=κ (((qg.refl _ _).drewN 1).trans a4);clear aL a4 ai t4;refine⟨_,rfl,qi aZ.o,J _ _ ?_⟩;clear J K;refine qA ?_;go_wp2;go_meet;exact⟨bf.o,ah.o⟩
 case rest=>
 obtain⟨ai,t4⟩:=hcut;rename_i w4;have bj:=κ ((ar.o.trans t4).blk η ac.o);have ah:=κ (aI.o.trans ((ar.o.trans t4).sub (F':=F) (λb d=>List.mem_append_right _ d)));obtain⟨bx,bC,bG,aC⟩:=ai;have af:=κ aC;obtain⟨bv,aA,aT⟩:=aC.laneAt (x:=sub) (l:=aa) (xD _ _ _);obtain rfl:bv=p:=by rw[ao.o] at aA;injection aA with e;exact e.symm
 have am:=κ (JB aT);clear aC aA aT t4;obtain⟨au,ay⟩:=ν (aa.gone);rw[ay] at am;have bl:=κ ay;clear ay;have aG:Hid (s.write sub acc={s with lanes:=qx s.lanes sub aa,tab:=if au then (zM s.tab sub).1 else s.tab,book:=if au then vM (if c then jp s.book sub id H else s.book) sub 7 else if c then jp s.book sub id H else s.book}):=κ (by unfold RmS.write;rw[aH.o];simp only[bn.o];rw[an.o,bl.o]);cases au with
 | false=>
  go_wp2_with (go_at_call 69;(go_call am.o as e w6 ⟨rfl,O⟩;have ag:=κ O;clear O))
  (refine bodyPost_end (v:= .tuple #[]) ?re1 rfl ?_;(case re1=>simp[results,results77,go_sem]))
  exact⟨rfl,by rw[aG.o];exact(af.o.on ag.o).at.sub (λb d=>List.mem_append_right _ d),ah.o.trans ((af.o.at.stay ag.o).sub (λb d=>List.mem_append_right _ d))⟩
 | true=>
  go_upto_region 6 with (go_at_call 69;(go_call am.o as e w6 ⟨rfl,O⟩;have ag:=κ O;have N:=κ (af.o.on O);have aE:=κ (qc O bj.o);clear O))
  have aV:k.R≠k.b:=λe=>by
   obtain⟨_,d,_⟩:=N.o.all .book;rw[<-e,(N.o.all .room).1] at d;cases d
  have aW:w.heap.size≠k.b:=λe=>by
   obtain⟨_,d,_⟩:=N.o.all .book;rw[<-e,(N.o.law (w.heap.size) η).1] at d;cases d
  have ak:=λ(x:qz (λb=>b=k.b) w6)=>β0 (x.h.blk N.o.blk aV)
  have al:=λ(x:qz (λb=>b=k.b) w6)=>β1 (x.h.blk aE.o aW)
  refine QN (λb=>b=k.b) w6 8 8 [7] ?_
  refine Qs7 ?_
  (refine Ql ?_;intro K J)
  go_call LJ (N.o.on (qa.drewN w6 1)).at sub (by have:=Kd s.book sub id H;cases c<;>simp<;>omega) as e I ⟨⟨v7,rfl⟩,aP,aX,aK⟩;have bg:=κ aP;have aJ:Hid (qw ([w.heap.size]++F) w6 I):=κ ((N.o.at.stay (qa.drewN w6 1)).trans aX);have ba:Hid (qg (λb=>b=k.b) w6 I):=κ (((qg.refl _ _).drewN 1).trans aK);clear aP aX aK;refine⟨_,rfl,qi ba.o,J _ _ ?_⟩;clear J K ak al aV aW;refine qA ?_;have bk:=κ (aJ.o.blk η aE.o);obtain⟨bz,bD,bH,Y⟩:=bg.o;have ap:=κ Y;have bs:k.R≠k.td:=λe=>by
   obtain⟨_,_,_,d,_⟩:=Y.all .table;rw[<-e,(Y.all .room).1] at d;cases d
  have n2:w.heap.size≠k.td:=λe=>by
   obtain⟨_,_,_,d,_⟩:=Y.all .table;rw[<-e,(Y.law w.heap.size η).1] at d;cases d
  have ak:=λ(x:qz (λb=>b=k.td) I)=>β11 (x.h.blk ap.o.blk bs)
  have al:=λ(x:qz (λb=>b=k.td) I)=>β1 (x.h.blk bk.o n2)
  clear Y
  go_upto_region 7 with fail
  refine QN (λb=>b=k.td) I 7 7 [6] ?_
  refine Qs6 ?_
  (refine Ql ?_;intro K J)
  go_call Lc (ap.o.on (qa.drewN I 1)).at sub as e w9 ⟨⟨v9,rfl⟩,aQ,t9,a9⟩;have bh:=κ aQ;have bo:Hid (qw ([w.heap.size]++F) I w9):=κ ((ap.o.at.stay (qa.drewN I 1)).trans t9);have bb:Hid (qg (λb=>b=k.td) I w9):=κ (((qg.refl _ _).drewN 1).trans a9);clear aQ t9 a9;refine⟨_,rfl,qi bb.o,J _ _ ?_⟩;clear J K;refine qA ?_;go_wp2
  (refine bodyPost_end (v:= .tuple #[]) ?re2 rfl ?_;(case re2=>simp[results,results77,go_sem]))
  exact⟨rfl,by rw[aG.o];exact bh.o.sub (λb d=>List.mem_append_right _ d),ah.o.trans (((af.o.at.stay ag.o).trans (aJ.o.trans bo.o)).sub (λb d=>List.mem_append_right _ d))⟩
end
theorem Z4 (n sub:Int) (w:World):Calls prog 75 #[θ #[ι n,ι sub]] w λe w'=>e= .returned (ι (xB n))/\qa w w':=by
 by_cases h2:n=2
 ·subst h2
  go_enter func75,ntmps75
  go_wp2;go_ret;exact⟨rfl,qa.alloc _ _⟩
 ·by_cases h3:n=3
  ·subst h3
   go_enter func75,ntmps75
   go_wp2;go_ret;exact⟨rfl,qa.alloc _ _⟩
  ·have e:xB n=3:=by unfold xB;rw[if_neg h2,if_neg h3]
   have d:(n==2)=false:=by simp[h2]
   have G:(n==3)=false:=by simp[h3]
   rw[e];clear h2 h3 e
   go_enter func75,ntmps75
   go_wp2;go_ret;exact⟨rfl,qa.alloc _ _⟩
theorem CM (n sub:Int) (J:0<=n/\n<=4) (w:World):Calls prog 127 #[θ #[ι n,ι sub]] w λe w'=>e= .returned (.tuple #[θ #[ι (vi (n,sub)).1.1,ι (vi (n,sub)).1.2],μ (vi (n,sub)).2])/\qa w w':=by
 have d:=qj (w.alloc (.cells #[ι n,ι sub] 37)) (.cells #[ι 0,ι 0] 37);by_cases h0:n=0
 ·subst h0
  go_enter func127,ntmps127
  go_wp2
  (refine bodyPost_ret (v:= .tuple #[θ #[ι 0,ι 0],false]) ?rr1 rfl ?_;(case rr1=>(simp[results,results127,go_sem])))
  exact⟨rfl,ρ⟩
 ·by_cases h1:n=1
  ·subst h1
   go_enter func127,ntmps127
   go_wp2
   (refine bodyPost_ret (v:= .tuple #[θ #[ι 0,ι 0],true]) ?rr2 rfl ?_;(case rr2=>(simp[results,results127,go_sem])))
   exact⟨rfl,ρ⟩
  ·by_cases h2:n=2
   ·subst h2
    go_enter func127,ntmps127
    go_wp2
    (refine bodyPost_ret (v:= .tuple #[θ #[ι 1,ι 0],true]) ?rr3 rfl ?_;(case rr3=>(simp[results,results127,go_sem])))
    exact⟨rfl,ρ⟩
   ·have e:vi (n,sub)=((n-1,sub),true):=by unfold vi;rw[if_neg h0,if_neg h1,if_neg h2]
    have G:(n==0)=false:=by simp[h0]
    have H:(n==1)=false:=by simp[h1]
    have I:(n==2)=false:=by simp[h2]
    rw[e];clear e
    go_enter func127,ntmps127
    go_wp2
    (refine bodyPost_ret (v:= .tuple #[θ #[ι (n-1),ι sub],true]) ?rr4 rfl ?_;(case rr4=>(simp[results,results127,go_sem])))
    exact⟨rfl,ρ⟩
theorem PZ {J:Nat->Prop} {w:World} {p:Nat} {l:LnS} (h:zw J w p l) (n:Int) (N:n=1∨n=2∨n=3):
  Calls prog 126 #[γ p,ι n] w λe w'=>(∃v,e= .returned v/\w'.ownsRow w.heap.size 3 1 v (KG l n).length ((KG l n).map (Value.int .i64)))/\zw (xf J w w') w' p (vh l n)/\qg J w w':=by
 obtain⟨k,vo,rfl,x⟩:=h;rcases N with rfl | rfl | rfl
 ·refine(Z1 x).mono ?_;rintro e w' ⟨d,G,H⟩;exact⟨d,⟨k,vo,rfl,G⟩,H.mono λb I=>x.muts b I⟩
 ·refine(ZZ x).mono ?_;rintro e w' ⟨d,G,H⟩;exact⟨d,⟨k,vo,rfl,G⟩,H.mono λb I=>x.muts b I⟩
 ·refine(ZY x).mono ?_;rintro e w' ⟨d,G,H⟩;exact⟨d,⟨k,vo,rfl,G⟩,H.mono λb I=>x.muts b I⟩
theorem Kb (n:Int):xB n=1∨xB n=2∨xB n=3:=by
 unfold xB;split
 ·exact Or.inl rfl
 ·split
  ·exact Or.inr (Or.inl rfl)
  ·exact Or.inr (Or.inr rfl)
section
variable {T:Nat->Tg} {w0 w w':World} {k:RmK} {vp vr:Value} {s:RmS} {F:List Nat}
theorem DrJ.step' {w w':World} {R:Nat} {v v' G:Value} {b:Jb} {A:List Int} (d:DrJ w w' R v v' b G A):PS w w' R v v' b:=⟨d.buf,d.away,d.own⟩
theorem FD (h:RmX T w0 w k vp vr s F):
  Calls prog 124 #[γ k.RQ] w λe w'=>(∃d cap,e= .returned (δ d s.queue.length cap))/\qI w0 w' k {s with queue:=[]} F/\qw F w w'/\qg (RgB k.RQ k.AQ) w w':=by
 obtain⟨f,q,I,J,H,N,css,g,a⟩:=h.que;have ae: ∀c∈q,∃d n cp,c=[δ d n cp]:=λc ac=>by
  obtain⟨b,_,af⟩:=a.mem c ac;obtain⟨v,rfl,⟨d,cap,rfl,_⟩,_⟩:=af.read;exact⟨d,_,cap,rfl⟩
 refine(IL w _ _ _ _ q I J H N css g ae).mono ?_;rintro e w' ⟨v,rfl,ad,⟨Y,O,U,g'⟩,G⟩;obtain⟨d,cap,rfl⟩:=zA ad;obtain⟨aa,ab⟩:=h.ring (q:=[]) G (λD _=>⟨Y,[],I,J,H,O,U,g',trivial⟩);rw[a.len];exact⟨⟨d,cap,rfl⟩,aa,ab,G⟩
end
theorem ZH {w:World} {base e:Nat} {v:Value} {L:List Int} (h:w.ownsRow base e 1 v L.length (L.map (Value.int .i64))):
  ∃oa cap,v= δ oa L.length cap/\L.length<=maxLen/\ ∀w':World,(∀g,base<=g->g<w.heap.size->w'.heap[g]? =w.heap[g]?)-> ∀i (hi:i<L.length),∃g,oa=some ⟨g,0,none⟩/\w'.cell? ⟨g,i,none⟩=some (ι L[i]):=by
 rcases id h.2 with ⟨rfl,d⟩ | ⟨g,cap,cur,rfl,G,H,J,N,_⟩
 ·exact⟨none,0,by rw[d],τ,λw' _ i hi=>by omega⟩
 ·refine⟨_,cap,rfl,τ,λw' e i hi=>⟨g,rfl, ?_⟩⟩;have I:=h.cellAt i τ;rw[World.cell?_of_block (e g G (lt_of_block H)),I,List.getElem?_map,List.getElem?_eq_getElem hi];rfl
section
variable {w0 w w':World} {k:RmK} {s:RmS} {F:List Nat}
theorem RmX.orgsF {T:Nat->Tg} {vp J:Value} (h:RmX T w0 w k vp J s F):
  Calls prog 64 #[γ k.R] w λe w'=> ∃G cap Fn,e= .returned (δ G s.origins.length cap)/\s.origins.length<=9/\RmX T w0 w' k vp J s (Fn++F)/\qa w w'/\
   ∀w'':World,(∀b∈Fn,w''.heap[b]? =w'.heap[b]?)-> ∀i (hi:i<s.origins.length),∃b,G=some ⟨b,0,none⟩/\w''.cell? ⟨b,i* 2,none⟩=some (ι s.origins[i].1)/\w''.cell? ⟨b,i* 2+1,none⟩=some (ι s.origins[i].2):=by
 refine h.orgsRow.mono ?_;rintro e w' ⟨v,rfl,r,m⟩;have U:s.origins.length<=9:=by
  unfold RmS.origins;exact Nat.le_trans (List.length_filter_le _ _) ζ
 obtain⟨G,cap,rfl,_,Y⟩:=KT r;refine⟨G,cap,match G with | some a=>if w.heap.size<=a.block/\a.block<w'.heap.size then [a.block] else [] | none=>[],rfl,U,h.adds m (λb d=> ?_),m,λw'' I i hi=> ?_⟩
 ·cases G with
  | none=>simp at d
  | some a=>
   simp only at d;split at d
   ·rename_i H;simp at d;subst d;exact H
   ·simp at d
 ·obtain⟨b,rfl,O,H,N,c1⟩:=Y i hi;simp only[O,H,and_self,if_true] at I;have e:=I b η;exact⟨b,rfl,by rw[World.cell?_of_block e];exact N,by rw[World.cell?_of_block e];exact c1⟩
theorem Kq (L:List Int): ∀s:RmS,(L.foldl RmS.drain1 s).strs=s.strs:=by
 induction L with
 | nil=>intro s;rfl
 | cons x L ih=>intro s;rw[List.foldl_cons,ih];rfl
theorem Kp (s:RmS) (o x:Og):(qh (s.drainO o).strs x).isSome=(qh s.strs x).isSome:=by
 unfold RmS.drainO;cases ho:qh s.strs o with
 | none=>rfl
 | some t=>
  simp only[Kq,qF];by_cases e:x=o
  ·rw[if_pos e,e,ho];rfl
  ·rw[if_neg e]
theorem Y1 (L:List Og) (x:Og): ∀s:RmS,(qh (L.foldl RmS.drainO s).strs x).isSome=(qh s.strs x).isSome:=by
 induction L with
 | nil=>intro s;rfl
 | cons o L ih=>intro s;rw[List.foldl_cons,ih,Kp]
theorem QW {j:Nat} (h:j<6):subIds.take (j+1)=subIds.take j++[(j:Int)]:=by
 have:j=0∨j=1∨j=2∨j=3∨j=4∨j=5:=by omega
 rcases this with rfl | rfl | rfl | rfl | rfl | rfl<;>rfl
theorem UX (L:List Int): ∀s:RmS,(L.foldl RmS.drain1 s).ret=s.ret:=by
 induction L with
 | nil=>intro s;rfl
 | cons x L ih=>intro s;rw[List.foldl_cons,ih];rfl
theorem UW (s:RmS) (o:Og):(s.drainO o).ret=s.ret:=by
 unfold RmS.drainO;cases qh s.strs o with
 | none=>rfl
 | some t=>simp only[UX]
theorem PV (s:RmS) (w:Og):(s.drain w).ret=s.ret:=by
 unfold RmS.drain;split
 ·rfl
 ·split
  ·have: ∀(L:List Og) (s:RmS),(L.foldl RmS.drainO s).ret=s.ret:=by
    intro L
    induction L with
    | nil=>intro s;rfl
    | cons o L ih=>intro s;rw[List.foldl_cons,ih,UW]
   exact this _ _
  ·unfold RmS.drainL;cases qh s.lanes w.2<;>rfl
theorem Xt (h:qI w0 w k s F) (sub id f:Int):
  Calls prog 122 #[θ #[γ k.B],ι sub,ι id,ι f] w λe w'=>e= .returned (.tuple #[])/\qI w0 w' k {s with book:=jp s.book sub id f} F/\qw F w w'/\qg (λb=>b=k.b) w w':=by
 obtain⟨T,vp,H,x⟩:=h;refine(gI x.bok sub id f).mono ?_;rintro e w' ⟨rfl,b,a⟩;obtain⟨d,G⟩:=x.book b a;exact⟨rfl,d,G,a⟩
theorem qI.blk (h:qI w0 w k s F): ∃vp d,w.heap[k.R]? =some (.cells (zH k vp d s) 95 (0,0)):=by
 obtain⟨T,vp,d,x⟩:=h;exact⟨vp,d,x.blk⟩
theorem qI.nb (h:qI w0 w k s F):k.R≠k.b/\(∀b∈F,b≠k.b)/\k.b<w.heap.size:=by
 obtain⟨T,vp,I,x⟩:=h;obtain⟨_,d,H⟩:=x.all .book;refine⟨λe=> ?_,λb G e=> ?_,H.map.lt⟩
 ·rw[<-e,(x.all .room).1] at d;cases d
 ·rw[<-e,(x.law b G).1] at d;cases d
def Hm (s s':RmS):Prop:=s'.ret=s.ret/\s'.queue=s.queue/\s'.tab=s.tab/\s'.book=s.book/\s'.lanes=s.lanes/\s'.strs=s.strs/\s'.pks=s.pks/\s'.reqs=s.reqs/\s'.cfg=s.cfg
theorem qI.self (h:qI w0 w k s F) (a:qg (λb=>b=k.R) w w') {s':RmS} (blk: ∀vp d,w.heap[k.R]? =some (.cells (zH k vp d s) 95 (0,0))->w'.heap[k.R]? =some (.cells (zH k vp d s') 95 (0,0))) (r:Hm s s'):qI w0 w' k s' F/\qw F w w':=by
 obtain⟨T,vp,d,x⟩:=h;obtain⟨I,J,N,O,U,Y,aa,ab,ac⟩:=r;refine x.self a (blk vp d x.blk) (λu H G y=> ?_);cases u<;>first | exact absurd rfl H | exact absurd rfl G | (unfold RmK.Holds at y ⊢;(try simp only[I,J,N,O,U,Y,aa,ab,ac]);(try exact y))
theorem qI.cell (h:qI w0 w k s F) (i:Nat) (v:Value) {s':RmS} (e: ∀vp d,(zH k vp d s).setIfInBounds i v=zH k vp d s') (r:Hm s s'):qI w0 (w.setCell ⟨k.R,i,none⟩ v) k s' F/\qw F w (w.setCell ⟨k.R,i,none⟩ v):=
 h.self (qg.set (S:=λb=>b=k.R) (qg.refl _ _) (p:=⟨k.R,i,none⟩) rfl v) (λvp d b=>qB (qp b i v) (e vp d)) r
theorem IB (h:qI w0 w k s F):w.cell? ⟨k.R,16,none⟩=some (ι s.cnt.lost)/\w.frozen? ⟨k.R,16,none⟩=false/\ ∃vp d,w.heap[k.R]? =some (.cells (zH k vp d s) 95 (0,0)):=by
 obtain⟨T,vp,d,x⟩:=h;exact⟨qb x.blk 16 rfl,qd x.blk 16,vp,d,x.blk⟩
theorem ME (h:qI w0 w k s F) (w1 w2:Int) (acc:Bool) (cp:0<=w1/\w1<=4) (az:2<=w1->(qh s.lanes w2).isSome=true) (co:0<=s.cnt.lost/\s.cnt.lost<=1000000000):
  Calls prog 78 #[γ k.R,θ #[ι w1,ι w2],acc] w λe w'=>e= .returned (.tuple #[])/\qI w0 w' k (s.endW (w1,w2)) F/\qw F w w':=by
 have ca:=κ (h.stay (qa.alloc w (.cells #[ι w1,ι w2] 37)));have bB:=h.adds (qa.alloc w (.cells #[ι w1,ι w2] 37)) (Fn:=[w.heap.size]) (λb G=>by simp at G;subst G;simp);have aC:=κ (qj w (.cells #[ι w1,ι w2] 37));obtain⟨W1,bC⟩:=ν (w.alloc (.cells #[ι w1,ι w2] 37));rw[bC] at bB aC ca;have bl:=κ bB;have cY:=κ az;have cZ:=κ co;have dp:=β0 aC.o;obtain⟨cA,cB⟩:=cp;clear h bB az co
 go_enter func78,ntmps78
 go_upto_block 0 with fail
 (try rw[bC])
 clear bC
 go_cut [5,6,7,8,9,10,11,12] from 17 to 94 (λ_ _ _ _ _ _ _ _ cI=>qI w0 cI k (s.drain (w1,w2)) ([w.heap.size]++F)/\qw ([w.heap.size]++F) W1 cI)
 case first=>
  by_cases e0:w1=0
  ·subst e0;obtain⟨T,vp,bL,I⟩:=bl.o;have H:=κ I;have dy: ¬RgB k.RQ k.AQ k.R:=by
    obtain⟨cE,cF,_⟩:=I.all .queue;rintro(e | e)
    ·rw[<-e,(I.all .room).1] at cE;cases cE
    ·rw[<-e,(I.all .room).1] at cF;cases cF
   have bs:=λ(x:qz (RgB k.RQ k.AQ) W1)=>x.h.blk H.o.blk dy
   have dC:=λx=>β16 (bs x);have dB:=λx=>β10 (bs x);clear bs
   have dL:(s.queue.length:Int)<=8:=by have:=I.que.fit;omega
   obtain⟨dM,dN⟩:=cZ.o;clear I
   go_upto_region 8 with fail
   refine QN (RgB k.RQ k.AQ) W1 15 16 [9,12,13,15] ?_
   refine Qs9 ?_
   (refine Ql ?_;intro K d)
   go_call FD (H.o.on (qa.drewN W1 1)) as e aS ⟨⟨cD,cap,rfl⟩,aK,cG,cf⟩;have aB:Hid (qg (RgB k.RQ k.AQ) W1 aS):=κ (((qg.refl _ _).drewN 1).trans cf);have dm:Hid (qw ([w.heap.size]++F) W1 aS):=κ ((H.o.at.stay (qa.drewN W1 1)).trans cG);have aD:=κ aK;clear aK cG cf;refine⟨_,rfl,qi aB.o,d _ _ ?_⟩;clear d K
   iterate 2 (refine qE rfl rfl (qi aB.o) ?_;intro K d;go_big_quiet_op;go_big_quiet_on)
   have di:=κ (IB aD.o);obtain⟨dE,dG,aU⟩:=di.o
   (refine Ql ?_;intro K d)
   refine⟨qi aB.o,d _ _ ?_⟩;clear d K
   (refine Ql ?_;intro K d)
   refine⟨qi aB.o,d _ _ ?_⟩;clear d K
   iterate 1 (refine qE rfl rfl (qi aB.o) ?_;intro K d;go_big_quiet_op;go_big_quiet_on)
   (refine Qe ?_;intro K d)
   refine d _ _ ?_;clear d K;refine qA ?_;have af:=aD.o.cell 16 (ι (s.cnt.lost+s.queue.length)) (s':={s with queue:=[],cnt:={s.cnt with lost:=s.cnt.lost+s.queue.length}}) (λ_ _=>rfl) ⟨rfl,rfl,rfl,rfl,rfl,rfl,rfl,rfl,rfl⟩;have af:=κ af;go_wp2;go_meet;exact⟨af.o.1,dm.o.trans af.o.2⟩
  ·by_cases e1:w1=1
   ·subst e1;obtain⟨T,vp,bL,I⟩:=bl.o;have H:=κ I;clear I;obtain⟨O,bH⟩:=ν (s.origins);have bW:=κ bH;have bX:=κ H.o.orgsF;rw[bH] at bX;clear bH
    go_wp2_with (go_at_call 64;(go_call bX.o as e aR ⟨cD,cap,Fn,rfl,cj,cJ,cy,aO⟩;have bc:=κ aO;have cW:=κ cJ.at;have dg:=κ cy;have da:=κ cj;clear aO cJ cy cj))
    have dk:=κ (H.o.at.stay dg.o);have ba:Hid (s.drain (1,w2)=O.foldl RmS.drainO s):=κ (by rw[<-bW.o];rfl);have dK:=da.o
    go_loopw [63] (λab wr=> ∃j:Nat,j<=O.length/\ab= ι j/\qI w0 wr k ((O.take j).foldl RmS.drainO s) (Fn++([w.heap.size]++F))/\qw (Fn++([w.heap.size]++F)) aR wr) (λab _=>O.length-(intOf ab).toNat)
    case atStart=>exact⟨0,τ,rfl,cW.o,qw.refl _ _⟩
    case round=>
     obtain⟨j,dv,rfl,N,J⟩:=hrel;have ax:=κ J;by_cases hlt:j<O.length
     ·have bF:(j:Int)<(O.length:Int):=by omega
      obtain⟨g,rfl,bA,c1⟩:=bc.o wr (λb G=>J.2 b (by simp[G])) j hlt;have br:Hid (O.take (j+1)=O.take j++[O[j]]):=κ (by rw[List.take_add_one,List.getElem?_eq_getElem hlt];rfl);have cl:(qh ((O.take j).foldl RmS.drainO s).strs O[j]).isSome=true:=by
       rw[Y1];have:O[j]∈s.origins:=by rw[bW.o];exact List.getElem_mem hlt
       obtain⟨t,J⟩:=yB this;rw[J];rfl
      obtain⟨t,bI⟩:=Option.isSome_iff_exists.1 cl;have cd:=κ bI;clear cl J;generalize O[j]=o at *;generalize cu:(O.take j).foldl RmS.drainO s=sj at *;have dc:=κ cu;clear cu;obtain⟨U,o2⟩:=o;simp only at bA c1;obtain⟨aa,bd⟩:=ν (wr.alloc (.cells #[ι U,ι o2] 58));have ce:Hid (qa wr aa):=κ (by rw[<-bd];exact qa.alloc _ _);have bO:Hid (aa.heap[wr.heap.size]? =some (.cells #[ι U,ι o2] 58 (0,0))):=κ (by rw[<-bd];exact qj wr _);have bx:=κ (ax.o.trans (N.stay ce.o));obtain⟨ag,dz,dA,cw⟩:=N;have ai:RmX ag w0 aa k dz dA sj ([wr.heap.size]++(Fn++([w.heap.size]++F))):=cw.adds ce.o (λb G=>by simp at G;subst G;exact⟨Nat.le_refl _,lt_of_block bO.o⟩);have aF:=κ ai;obtain⟨p,dj,v,aN,cx⟩:=ai.strAt bI;have ap:=κ cx;have aE:=κ aN;have bK: ¬ag k.R= .str (U,o2):=by rw[(ai.all .room).1];simp
      have bJ: ¬ag k.MS= .str (U,o2):=by rw[(ai.all .sts).1];simp
      have dx: ¬ag wr.heap.size= .str (U,o2):=by rw[(ai.law wr.heap.size η).1];simp
      have cN:=λ(x:qz (λb=>ag b= .str (U,o2)/\b≠p) aa)=>β13 (x.h.blk aF.o.blk (λq=>bK q.1))
      have bt:=λ(x:qz (λb=>ag b= .str (U,o2)/\b≠p) aa)=>x.h.blk bO.o (λq=>dx q.1)
      have aw:=λx=>β0 (bt x);have aX:=λx=>β1 (bt x);clear bt
      have bk: ∀x:qz (λb=>ag b= .str (U,o2)/\b≠p) aa,(Instr.lookup 91 (.map (some k.MS)) (θ #[ι U,ι o2]) false).run prog x.w'= .ok (γ p) x.w':=λx=>by
       have:=ya (aF.o.stm.away x.h (λq=>bJ q.1)) (U,o2) false;rw[aE.o] at this;exact this
      have cO:=λ(x:qz (λb=>ag b= .str (U,o2)/\b≠p) aa)=>β0 (x.h.blk ap.o.blk (λq=>q.2 rfl))
      clear cw ai cx aN bI;have bU:Hid (∀x,(thJ t.buf.holds).foldl RmS.drain1 {sj with strs:=qx sj.strs (U,o2) {t with buf:=vP t.buf}}=x->sj.drainO (U,o2)=x):=κ (λx e=>by unfold RmS.drainO;rw[cd.o];exact e)
      go_upto_region 13 with fail
      (try rw[bd])
      clear bd bA c1;refine zp (λb=>ag b= .str (U,o2)/\b≠p) aa 12 [(0,false),(1,false),(2,false),(3,false),(4,false),(5,false),(6,false),(7,false),(8,false),(11,false),(9,true),(10,false)] ξ ξ ?_
      refine Nx ?_
      (refine Ql ?_;intro K d)
      go_call Wn t.buf ap.o.ok dj v _ (ap.o.buf.on (qa.drewN aa 1)) as e w4 ⟨v4,rfl,v5,aI,_⟩;obtain⟨ch,t4⟩:=(aF.o.on (qa.drewN aa 1)).strBuf cd.o aE.o (ap.o.on (qa.drewN aa 1)) aI.step' aI.ok
      have bN:Hid (qg (λb=>ag b= .str (U,o2)/\b≠p) aa w4):=κ (((qg.refl _ _).drewN 1).trans (aI.away.mono (λb G=>by
       rcases G with rfl | G
       ·exact⟨ap.o.nb,Ne.symm ap.o.ne⟩
       ·exact ap.o.nv _ G)))
      obtain⟨dO,dF,rfl,aL,cr⟩:=ZH aI.row;have bZ:=κ cr;have cV:=κ ch;have dl:=κ ((aF.o.at.stay (qa.drewN aa 1)).trans t4);have bp:Hid (k.b<aa.heap.size):=κ aF.o.at.nb.2.2;clear cr ch t4 aI;refine⟨_,rfl,qi bN.o,d _ _ ?_⟩;clear d K;obtain⟨L,ao⟩:=ν (thJ t.buf.holds);rw[ao] at bZ bU aL;unfold maxLen at aL;simp only[ao];clear ao
      iterate 1 (refine qE rfl rfl (qi bN.o) ?_;intro K d;go_big_quiet_op;go_big_quiet_on)
      refine qA ?_;clear cN bk cO aw aX;generalize {sj with strs:=qx sj.strs (U,o2) {t with buf:=vP t.buf}}=s4 at *;go_wp2;obtain⟨aA,rfl⟩: ∃aA:World,aA=wr:=⟨_,rfl⟩
      go_loopw [78] (λab wr=> ∃i:Nat,i<=L.length/\ab= ι i/\qI w0 wr k ((L.take i).foldl RmS.drain1 s4) ([aA.heap.size]++(Fn++([w.heap.size]++F)))/\qw ([aA.heap.size]++(Fn++([w.heap.size]++F))) w4 wr/\qg (λb=>b=k.b) w4 wr) (λab _=>L.length-(intOf ab).toNat)
      case atStart=>exact⟨0,τ,rfl,cV.o,qw.refl _ _,qg.refl _ _⟩
      case round=>
       obtain⟨i,hi,rfl,N,J,ac⟩:=hrel;have an:=κ N;have cc:=κ J;have bS:=κ ac;clear N J ac;by_cases hlt2:i<L.length
       ·have du:(i:Int)<(L.length:Int):=by omega
        obtain⟨dH,rfl,c2⟩:=bZ.o wr (λb bf ds=>bS.o.block b ds (by have:=bp.o;have bf:aa.heap.size<=b:=bf;omega)) i hlt2;have dd:Hid (L.take (i+1)=L.take i++[L[i]]):=κ (by rw[List.take_add_one,List.getElem?_eq_getElem hlt2];rfl);generalize L[i]=id at *;generalize ct:(L.take i).foldl RmS.drain1 s4=s5 at *;have db:=κ ct;clear ct;go_wp2;obtain⟨bi,cv⟩: ∃bi:World,bi=wr:=⟨_,rfl⟩;have dD:=κ cv;obtain rfl:=cv
        go_loopw [82,10] (λab dP wr=> ∃n:Nat,n<=6/\ab= ι n/\qI w0 wr k {s5 with book:=xG s5.book (subIds.take n) id 8} ([aA.heap.size]++(Fn++([w.heap.size]++F)))/\qw ([aA.heap.size]++(Fn++([w.heap.size]++F))) bi wr/\qg (λb=>b=k.b) bi wr) (λab _ _=>6-(intOf ab).toNat)
        case atStart=>exact⟨0,τ,rfl,an.o,qw.refl _ _,qg.refl _ _⟩
        case round=>
         obtain⟨n,cp,rfl,N,J,ac⟩:=hrel;have bY:=κ N;have cb:=κ J;have bQ:=κ ac;obtain⟨aj,ak,aU⟩:=N.blk;have bA:=β0 aU;clear N J ac;by_cases hlt3:n<6
         ·have dw:(n:Int)<6:=by omega
          have de:=κ (QW hlt3)
          go_wp2_with (go_at_call 122;(go_call Xt bY.o (n:Int) id 8 as e cH ⟨rfl,aJ,aQ,aH⟩;have bm:=κ aJ;have bz:=κ aQ;have aT:=κ aH;clear aJ aQ aH))
          go_roundw
          case rel=>exact⟨n+1,τ,by go_num,by have:=bm.o;unfold xG at this ⊢;rw[de.o,List.foldl_append];exact this,cb.o.trans bz.o,bQ.o.trans aT.o⟩
          case measure=>simp[intOf];omega
         ·obtain rfl:n=6:=by omega
          have dw: ¬((6:Nat):Int)<6:=by omega
          go_wp2;go_roundw
          case rel=>exact⟨i+1,τ,by go_num,by rw[dd.o,List.foldl_append,db.o];exact bY.o,cc.o.trans cb.o,bS.o.trans bQ.o⟩
          case measure=>simp[intOf];omega
       ·obtain rfl:i=L.length:=by omega
        have du: ¬(L.length:Int)<(L.length:Int):=by omega
        go_wp2;go_roundw
        case rel=>exact⟨j+1,τ,by go_num,by rw[br.o,List.foldl_append,dc.o];have:=an.o;rw[List.take_length] at this;rw[<-bU.o _ rfl] at this;obtain⟨ae,aj,ak,Y⟩:=this;exact⟨ae,aj,ak,Y.sub (λb G=>List.mem_append_right _ G)⟩,bx.o.trans ((dl.o.trans cc.o).sub (λb G=>List.mem_append_right _ G))⟩
        case measure=>simp[intOf];omega
     ·obtain rfl:j=O.length:=by omega
      have bF: ¬(O.length:Int)<(O.length:Int):=by omega
      go_wp2;go_meet;exact⟨by rw[ba.o];have:=N;rw[List.take_length] at this;obtain⟨ae,aj,ak,Y⟩:=this;exact⟨ae,aj,ak,Y.sub (λb G=>List.mem_append_right _ G)⟩,(dk.o.trans (ax.o.sub (λb G=>List.mem_append_right _ G)))⟩
   ·have ci:2<=w1:=by omega
    obtain⟨T,vp,bL,I⟩:=bl.o;have H:=κ I;obtain⟨l,az⟩:=Option.isSome_iff_exists.1 (cY.o ci);obtain⟨p,aN,cn⟩:=I.laneAt az;have cX:=κ cn;have aE:=κ aN;have bV:=κ az;have bK: ¬T k.R= .lane w2:=by rw[(I.all .room).1];simp
    have bJ: ¬T k.ML= .lane w2:=by rw[(I.all .lns).1];simp
    have bh: ¬T w.heap.size= .lane w2:=by rw[(I.law w.heap.size η).1];simp
    have cM:=λ(x:qz (λb=>T b= .lane w2) W1)=>β12 (x.h.blk H.o.blk bK)
    have bu:=λ(x:qz (λb=>T b= .lane w2) W1)=>x.h.blk aC.o bh
    have cQ:=λx=>β0 (bu x);have cP:=λx=>β1 (bu x);clear bu
    have bk: ∀x:qz (λb=>T b= .lane w2) W1,(Instr.lookup 90 (.map (some k.ML)) (ι w2) false).run prog x.w'= .ok (γ p) x.w':=λx=>by
     have:=xq (H.o.lnm.away x.h bJ) w2 false;rw[aE.o] at this;exact this
    have dr:(w1==0)=false:=by simp[e0]
    have bf:(w1==1)=false:=by simp[e1]
    have am:Hid (¬w1=0/\ ¬w1=1):=κ ⟨e0,e1⟩;clear I az aN cn e0 e1 cA cB ci
    go_upto_region 2 with fail
    refine zp (λb=>T b= .lane w2) W1 12 [(0,false),(1,false),(2,false),(3,false),(4,false),(5,false),(6,false),(7,false),(11,false),(8,true),(9,true),(10,false)] ξ ξ ?_
    refine Qs9 ?_
    (refine Ql ?_;intro K d)
    go_call Z4 w1 w2 _ as e aS ⟨rfl,md⟩;have ay:Hid (qa W1 aS):=κ ((qa.drewN W1 1).trans md);clear md;refine⟨_,rfl,qi (qg.of_more ay.o),d _ _ ?_⟩;clear d K
    (refine Ql ?_;intro K d)
    go_call PZ (cX.o.on ay.o) (xB w1) (Kb w1) as e aR ⟨⟨v3,rfl,cq⟩,ai,a3⟩;obtain⟨cg,t3⟩:=(H.o.on ay.o).lanePut bV.o aE.o ai a3;have bM:Hid (qg (λb=>T b= .lane w2) W1 aR):=κ ((qg.of_more ay.o).trans a3);have bP:=κ cg;have bx:Hid (qw ([w.heap.size]++F) W1 aR):=κ ((H.o.at.stay ay.o).trans t3);obtain⟨cD,cap,rfl,aL,aO⟩:=ZH cq;have bc:=κ aO;clear cq ai a3 cg t3 aO;refine⟨_,rfl,qi bM.o,d _ _ ?_⟩;clear d K;obtain⟨L,ao⟩:=ν (KG l (xB w1));have ba:Hid (s.drain (w1,w2)={s with lanes:=qx s.lanes w2 (vh l (xB w1)),book:=L.foldl (λb id=>jp b w2 id 8) s.book}):=κ (by unfold RmS.drain RmS.drainL;simp only[if_neg am.o.1,if_neg am.o.2,bV.o,ao]);rw[ao] at bc aL;unfold maxLen at aL;simp only[ao];clear ao
    iterate 1 (refine qE rfl rfl (qi bM.o) ?_;intro K d;go_big_quiet_op;go_big_quiet_on)
    refine qA ?_;clear cM cQ cP bk;have bp:Hid (k.b<aS.heap.size):=κ (Nat.lt_of_lt_of_le H.o.at.nb.2.2 ay.o.size);obtain⟨dq,ck⟩:=ν (vh l (xB w1));rw[ck] at bP ba;clear ck;go_wp2
    go_loopw [28] (λab wr=> ∃j:Nat,j<=L.length/\ab= ι j/\qI w0 wr k {s with lanes:=qx s.lanes w2 dq,book:=(L.take j).foldl (λb id=>jp b w2 id 8) s.book} ([w.heap.size]++F)/\qw ([w.heap.size]++F) W1 wr/\qg (λb=>b=k.b) aR wr) (λab _=>L.length-(intOf ab).toNat)
    case atStart=>exact⟨0,τ,rfl,bP.o,bx.o,qg.refl _ _⟩
    case round=>
     obtain⟨j,dv,rfl,N,J,ac⟩:=hrel;have an:=κ N;have ax:=κ J;have bT:=κ ac;clear N J ac;by_cases hlt:j<L.length
     ·have bF:(j:Int)<(L.length:Int):=by omega
      obtain⟨g,rfl,dI⟩:=bc.o wr (λg dJ dt=>bT.o.block g dt (by have:=bp.o;omega)) j hlt;have br:Hid (L.take (j+1)=L.take j++[L[j]]):=κ (by rw[List.take_add_one,List.getElem?_eq_getElem hlt];rfl);generalize L[j]=id at *
      go_upto_region 5 with fail
      obtain⟨nb,cC,_⟩:=an.o.nb;obtain⟨aj,ak,aU⟩:=an.o.blk;have cL:=κ (ax.o.blk η aC.o);have bh:=cC w.heap.size η;have aw:=λ(x:qz (λb=>b=k.b) wr)=>β0 (x.h.blk aU nb)
      have cR:=λ(x:qz (λb=>b=k.b) wr)=>β1 (x.h.blk cL.o bh)
      refine QN (λb=>b=k.b) wr 8 8 [7] ?_
      refine Qs7 ?_
      (refine Ql ?_;intro K d)
      go_call Xt (an.o.on (qa.drewN wr 1)) w2 id 8 as e cH ⟨rfl,aJ,aQ,aH⟩;have bm:=κ aJ;have bz:=κ aQ;have aT:Hid (qg (λb=>b=k.b) wr cH):=κ (((qg.refl _ _).drewN 1).trans aH);clear aJ aQ aH;refine⟨_,rfl,qi aT.o,d _ _ ?_⟩;clear d K aw cR nb cC bh;refine qA ?_;go_wp2;go_roundw
      case rel=>exact⟨j+1,τ,by go_num,by rw[br.o,List.foldl_append];exact bm.o,ax.o.trans ((an.o.stay (qa.drewN wr 1)).trans bz.o),bT.o.trans aT.o⟩
      case measure=>simp[intOf];omega
     ·obtain rfl:j=L.length:=by omega
      have bF: ¬(L.length:Int)<(L.length:Int):=by omega
      go_wp2;go_meet;exact⟨by rw[ba.o];have:=an.o;rw[List.take_length] at this;exact this,ax.o⟩
 case rest=>
  obtain⟨aK,J⟩:=hcut;have aD:=κ aK;have df:=κ J;have bj:=κ (J.blk η aC.o);clear aK J dp;obtain⟨av,bg⟩:=ν (s.drain (w1,w2));rw[bg] at aD;have dr:=β0 bj.o;have bf:=β1 bj.o;obtain⟨aq,bD⟩:=ν ((vi (w1,w2)).1.1);obtain⟨ar,bE⟩:=ν ((vi (w1,w2)).1.2);obtain⟨ok,bG⟩:=ν ((vi (w1,w2)).2);have bR:=κ (CM w1 w2 ⟨cA,cB⟩ wc);rw[bD,bE,bG] at bR;have bb:Hid (s.goesR (w1,w2)=(!ok||(qh s.ret (aq,ar)).getD false)):=κ (by unfold RmS.goesR;rw[bG,<-bD,<-bE]);have bn:Hid (av.ret=s.ret):=κ (by rw[<-bg];exact PV s _);have bo:=κ bg;clear bg bD bE bG;have bq:=κ (ca.o.trans (df.o.sub (F':=F) (λb G=>List.mem_append_right _ G)))
  go_upto_region 24 with (go_at_call 127;(go_call bR.o as e w5 ⟨rfl,cz⟩;have dh:=κ cz;clear cz))
  obtain⟨W6,be⟩:=ν (w5.alloc (.cells #[ι aq,ι ar] 37));have ah:Hid (qa wc W6):=κ (by rw[<-be];exact dh.o.al _);have cK:Hid (W6.heap[w5.heap.size]? =some (.cells #[ι aq,ι ar] 37 (0,0))):=κ (by rw[<-be];exact qj w5 _)
  (try rw[be])
  clear be;obtain⟨T,vp,bL,I⟩:=aD.o;have H:=κ I;clear I;have aV:=λ(x:qt W6)=>β8 (qc (ah.o.trans x.h) H.o.blk)
  have bv:=λ(x:qt W6)=>qc (ah.o.trans x.h) bj.o
  have aY:=λx=>β0 (bv x);have aZ:=λx=>β1 (bv x);clear bv
  have bw:=λ(x:qt W6)=>qc x.h cK.o
  have aw:=λx=>β0 (bw x);have aX:=λx=>β1 (bw x);clear bw
  have aW: ∀x:qt W6,(Instr.lookup 87 (.map (some k.M1)) (θ #[ι aq,ι ar]) false).run prog x.w'= .ok (μ ((qh av.ret (aq,ar)).getD false)) x.w':=λx=>VH (H.o.retm.more (ah.o.trans x.h)) (aq,ar)
  rw[bn.o] at aW;obtain⟨g,cm⟩:=ν ((qh s.ret (aq,ar)).getD false);rw[cm] at aW bb;clear cm;cases ok with
  | false=>
   have am:Hid (s.endW (w1,w2)={av with ret:=qx av.ret (w1,w2) true}):=κ (by unfold RmS.endW;rw[bb.o,bo.o,bn.o];rfl);refine qD _ (qa.refl _) ξ ξ ?_
   repeat (go_big_quiet_step (fail))
   refine wpQuiet_nil ?_;intro _ aP;obtain⟨Y,rfl⟩:=aP
   go_upto_region 25 with fail
   obtain⟨W7,au⟩:=ν (Y.w');have ad:Hid (qa W6 W7):=κ (by rw[<-au];exact Y.h)
   (try rw[au])
   clear au aW aw aX;have cS: ∀x:qt W7,x.w'.cell? ⟨k.R,8,none⟩=some (.map (some k.M1)):=λx=>aV ⟨_,ad.o.trans x.h⟩
   have cT: ∀x:qt W7,x.w'.cell? ⟨w.heap.size,0,none⟩=some (ι w1):=λx=>aY ⟨_,ad.o.trans x.h⟩
   have cU: ∀x:qt W7,x.w'.cell? ⟨w.heap.size,1,none⟩=some (ι w2):=λx=>aZ ⟨_,ad.o.trans x.h⟩
   clear aV aY aZ;refine Qn W7 5 6 [5] ?_
   refine Qq5 ?_
   have aG:=κ (H.o.on (ah.o.trans (ad.o.trans (qa.drewN W7 1))));obtain⟨w9,N,aM,ac,_⟩:=aG.o.retm.update KX underlying87 (w1,w2) true;unfold kO at N;have af:=κ (aG.o.retMap aM ac);have ae:=κ (H.o.at.stay (ah.o.trans (ad.o.trans (qa.drewN W7 1))));clear aM ac
   (refine Qe ?_;intro K d)
   refine d _ _ ?_;clear d K;refine qA ?_;go_wp2
   (refine bodyPost_end (v:= .tuple #[]) ?re1 rfl ?_;(case re1=>simp[results,results78,go_sem]))
   exact⟨rfl,by rw[am.o];obtain⟨ae,aj,ak,Y⟩:=af.o.1;exact⟨ae,aj,ak,Y.sub (λb G=>List.mem_append_right _ G)⟩,bq.o.trans ((ae.o.trans af.o.2).sub (λb G=>List.mem_append_right _ G))⟩
  | true=>
   cases g with
   | true=>
    have am:Hid (s.endW (w1,w2)={av with ret:=qx av.ret (w1,w2) true}):=κ (by unfold RmS.endW;rw[bb.o,bo.o,bn.o];rfl);refine qD _ (qa.refl _) ξ ξ ?_
    repeat (go_big_quiet_step (fail))
    refine wpQuiet_nil ?_;intro _ aP;obtain⟨Y,rfl⟩:=aP
    go_upto_region 25 with fail
    obtain⟨W7,au⟩:=ν (Y.w');have ad:Hid (qa W6 W7):=κ (by rw[<-au];exact Y.h)
    (try rw[au])
    clear au aW aw aX;have cS: ∀x:qt W7,x.w'.cell? ⟨k.R,8,none⟩=some (.map (some k.M1)):=λx=>aV ⟨_,ad.o.trans x.h⟩
    have cT: ∀x:qt W7,x.w'.cell? ⟨w.heap.size,0,none⟩=some (ι w1):=λx=>aY ⟨_,ad.o.trans x.h⟩
    have cU: ∀x:qt W7,x.w'.cell? ⟨w.heap.size,1,none⟩=some (ι w2):=λx=>aZ ⟨_,ad.o.trans x.h⟩
    clear aV aY aZ;refine Qn W7 5 6 [5] ?_
    refine Qq5 ?_
    have aG:=κ (H.o.on (ah.o.trans (ad.o.trans (qa.drewN W7 1))));obtain⟨w9,N,aM,ac,_⟩:=aG.o.retm.update KX underlying87 (w1,w2) true;unfold kO at N;have af:=κ (aG.o.retMap aM ac);have ae:=κ (H.o.at.stay (ah.o.trans (ad.o.trans (qa.drewN W7 1))));clear aM ac
    (refine Qe ?_;intro K d)
    refine d _ _ ?_;clear d K;refine qA ?_;go_wp2
    (refine bodyPost_end (v:= .tuple #[]) ?re2 rfl ?_;(case re2=>simp[results,results78,go_sem]))
    exact⟨rfl,by rw[am.o];obtain⟨ae,aj,ak,Y⟩:=af.o.1;exact⟨ae,aj,ak,Y.sub (λb G=>List.mem_append_right _ G)⟩,bq.o.trans ((ae.o.trans af.o.2).sub (λb G=>List.mem_append_right _ G))⟩
   | false=>
    have am:Hid (s.endW (w1,w2)=av):=κ (by unfold RmS.endW;rw[bb.o,bo.o];rfl);refine qD _ (qa.refl _) ξ ξ ?_
    repeat (go_big_quiet_step (fail))
    refine wpQuiet_nil ?_;intro _ aP;obtain⟨Y,rfl⟩:=aP;go_wp2
    (refine bodyPost_end (v:= .tuple #[]) ?re3 rfl ?_;(case re3=>simp[results,results78,go_sem]))
    have dn:=H.o.at.stay (ah.o.trans Y.h);exact⟨rfl,by rw[am.o];exact⟨_,_,_,(H.o.on (ah.o.trans Y.h)).sub (λb G=>List.mem_append_right _ G)⟩,bq.o.trans (dn.sub (λb G=>List.mem_append_right _ G))⟩
end
def NoU (w:World) (b:Nat):Prop:= ∀o k n,k≠IntKind.i64->w.cell? ⟨b,o,none⟩≠some (.int k n)
section
variable {S:Nat->Prop} {w w':World}
theorem SlI.noU {k:IntKind} {v:Value} {l:List Int} (h:SlI k w v l) (O:k≠ .i64) (a:qg S w w') (U: ∀b,S b->NoU w b):SlI k w' v l:=by
 obtain⟨Y,cap,H,I,J,N⟩:=h;refine⟨Y,cap,H,I,λi hi=> ?_,N⟩;obtain⟨b,aa,e,d,G⟩:=J i hi;exact⟨b,aa,e,Nat.lt_of_lt_of_le d a.size,by rw[a.cells b _ d (λs=>U b s _ _ _ O G)];exact G⟩
theorem SlP.noU {α:Type} {n:Nat} {R:qL α} {v:Value} {l:List α} (h:SlP n R w v l) (a:qg S w w') (af: ∀b,S b->NoU w b)
  (ae: ∀cs x,R w cs x->R w' cs x/\ ∃j k m,j<n/\k≠IntKind.i64/\cs[j]? =some (.int k m)):SlP n R w' v l:=by
 obtain⟨ah,cap,H,I,J,N⟩:=h;refine⟨ah,cap,H,I,λi hi=> ?_,N⟩;obtain⟨b,ai,cs,e,d,ac,G,O⟩:=J i hi;obtain⟨U,j,k,m,Y,ab,ad⟩:=ae cs _ O;refine⟨b,ai,cs,e,Nat.lt_of_lt_of_le d a.size,ac,λag aa=> ?_,U⟩;rw[a.cells b _ d (λs=>af b s _ _ _ ab ((G j Y).trans ad))];exact G ag aa
theorem Qk.noU {cs:List Value} {x:Itm} (h:Qk w cs x) (a:qg S w w') (d: ∀b,S b->NoU w b):Qk w' cs x/\ ∃j k m,j<17/\k≠IntKind.i64/\cs[j]? =some (.int k m):=by
 obtain⟨vb,H,I,vo,rfl,s,G⟩:=h;refine⟨⟨vb,H,I,vo,rfl,⟨s.bl.noU a d ?_,⟨s.ms.asks.noU a d ?_,s.ms.lost.noU ζ a d⟩,s.bo.noU ζ a d⟩,G⟩,10,_,_,ζ, ?_,rfl⟩
 ·rintro cs x ⟨rfl,h⟩;exact⟨⟨rfl,h⟩,0,_,_,ζ,ζ,rfl⟩
 ·rintro cs x ⟨rfl,h⟩;exact⟨⟨rfl,h⟩,0,_,_,ζ,ζ,rfl⟩
 ·decide
theorem PC {v:Value} {l:List Itm} (h:SlP 17 Qk w v l) (a:qg S w w') (d: ∀b,S b->NoU w b):SlP 17 Qk w' v l:=h.noU a d λ_ _ G=>G.noU a d
end
theorem Kf {c:qQ} (G:c.1<=31):(qG c).1.bl.length<=100000:=by
 have d: ∀(r:Rep) (s:RdS),r.bl.length<=100000->(yZ r s).1.bl.length<=100000:=by
  intro r s h;unfold yZ;split
  ·exact h
  ·exact Nat.zero_le _
 unfold qG;split
 ·decide
 ·split
  ·exact d _ _ (by simp only;rw[uz];omega)
  ·split
   ·exact d _ _ (by simp only;rw[uz];omega)
   ·decide
theorem GK {b:List Int} (U:Byt b) (h:(zx b).2=0):(zx b).1.length<=200/\ ∀x∈(zx b).1,CY x:=by
 have d:(jI b).2=0:=by
  cases G:decide ((jI b).2=0) with
  | true=>exact of_decide_eq_true G
  | false=>
   have:=of_decide_eq_false G;unfold zx at h;rw[if_neg this] at h;exact absurd h this
 obtain⟨J,_,_,N⟩:=QY U (k:=(jI b).1) (by rw[<-d]);obtain⟨_,O,_⟩:=Cc J;have Y:(zx b).1=(jI b).1.map λc=>(qv c).1:=by
  unfold zx at h ⊢;rw[if_pos d] at h ⊢;split at h
  ·rename_i H;rw[if_pos H]
  ·rename_i H;exact absurd h H
 generalize (jI b).1=l at *;rw[Y];refine⟨?_,λx aa=> ?_⟩
 ·rw[List.length_map];by_cases d:0<l.length
  ·exact(Xa N 0 d).2
  ·omega
 ·obtain⟨c,G,rfl⟩:=List.mem_map.1 aa;obtain⟨ab,_,ac⟩:=(zO c).1 (O c G);have I:=Kg (c:=c) τ;unfold qv;split
  ·exact⟨Kf ab,Nat.zero_le _,Nat.zero_le _,Nat.zero_le _⟩
  split
  ·exact⟨Nat.zero_le _,Nat.zero_le _,Nat.zero_le _,by show c.2.2.1.length<=1000000;omega⟩
  ·exact⟨Nat.zero_le _,I.1,I.2,Nat.zero_le _⟩
section
variable {T:Nat->Tg} {w0 w w':World} {k:RmK} {vp vr:Value} {s:RmS} {F:List Nat}
theorem RmX.ints (h:RmX T w0 w k vp vr s F) (m:qa w w') {N:IntKind} {v:Value} {L:List Int} (ac:SlI N w' v L) (aa: ∀q,v.ownBlock=some q->w.heap.size<=q):
  ∃G cap Fn,v= δ G L.length cap/\(L.length:Int)<=9223372036854775807/\RmX T w0 w' k vp vr s (Fn++F)/\ ∀w'':World,(∀b∈Fn,w''.heap[b]? =w'.heap[b]?)-> ∀i (hi:i<L.length),∃b H,G=some ⟨b,H,none⟩/\w''.cell? ⟨b,H+i,none⟩=some (.int N L[i]):=by
 obtain⟨G,cap,rfl,Y,ab,_⟩:=ac;refine⟨G,cap,match G with | some a=>if w.heap.size<=a.block/\a.block<w'.heap.size then [a.block] else [] | none=>[],rfl,Y,h.adds m (λb d=> ?_),λw'' J i hi=> ?_⟩
 ·cases G with
  | none=>simp at d
  | some a=>
   simp only at d;split at d
   ·rename_i I;simp at d;subst d;exact I
   ·simp at d
 ·obtain⟨b,H,rfl,I,O⟩:=ab i hi;have U:=aa b rfl;simp only[U,I,and_self,if_true] at J;have e:=J b η;refine⟨b,H,rfl, ?_⟩;rw[World.cell?_of_block e,O];simp[hi]
end
theorem Ub (n:Int) (w:World):Calls prog 89 #[ι n] w λe w'=>e= .returned (μ (jj n))/\w'=w:=by
 have G:Hid (jj n=decide (0<=n/\n<3)):=κ rfl;by_cases h1:0<=n
 ·by_cases h2:n<3
  ·have d:jj n=true:=by rw[G.o];simp[h1,h2]
   rw[d];clear d G
   go_enter func89,ntmps89
   go_wp2;go_ret;exact⟨rfl,rfl⟩
  ·have d:jj n=false:=by rw[G.o];simp[h2]
   rw[d];clear d G
   go_enter func89,ntmps89
   go_wp2;go_ret;exact⟨rfl,rfl⟩
 ·have d:jj n=false:=by rw[G.o];simp[h1]
  rw[d];clear d G
  go_enter func89,ntmps89
  go_wp2;go_ret;exact⟨rfl,rfl⟩
def Zy (s:RmS):Prop:= ∀x sb,qh s.tab.u x=some sb->sb.2.1=true-> ∀n,jj n=true->(qh s.strs (sb.2.2,n)).isSome=true
structure zQ (s s':RmS):Prop where
 tab:s'.tab=s.tab
 lanes:s'.lanes=s.lanes
 strs: ∀x,(qh s'.strs x).isSome=(qh s.strs x).isSome
theorem zQ.refl (s:RmS):zQ s s:=⟨rfl,rfl,λ_=>rfl⟩
theorem zQ.trans {a b c:RmS} (h:zQ a b) (k:zQ b c):zQ a c:=⟨k.tab.trans h.tab,k.lanes.trans h.lanes,λx=>(k.strs x).trans (h.strs x)⟩
theorem Um (s:RmS) (x:Int):zQ s (s.tell1 x):=by
 unfold RmS.tell1;cases qh s.tab.u x with
 | none=>exact zQ.refl s
 | some sb=>
  simp only;split
  ·cases qh s.lanes x with
   | none=>exact zQ.refl s
   | some l=>
    simp only;split
    ·cases ht:qh s.strs (sb.2.2,l.cur) with
     | none=>exact zQ.refl s
     | some t=>
      refine⟨rfl,rfl,λo=> ?_⟩;simp only[qF];split
      ·rename_i e;rw[e,ht];rfl
      ·rfl
    ·exact zQ.refl s
  ·exact zQ.refl s
theorem QV (L:List Int): ∀s:RmS,zQ s (L.foldl RmS.tell1 s):=by
 induction L with
 | nil=>exact zQ.refl
 | cons x L ih=>exact λs=>(Um s x).trans (ih _)
theorem Ul (L:List Int): ∀s:RmS,zQ s (L.foldl RmS.tellS s):=by
 induction L with
 | nil=>exact zQ.refl
 | cons x L ih=>exact λs=>(QV _ s).trans (ih _)
theorem zQ.subs {s s':RmS} (h:zQ s s') (k:zc s):zc s':=⟨by rw[h.tab];exact k.keys,by rw[h.tab,h.lanes];exact k.lane,by rw[h.tab];exact k.few⟩
theorem zQ.pub {s s':RmS} (h:zQ s s') (k:Zy s):Zy s':=λx I d G n H=>by
 rw[h.tab] at d;rw[h.strs];exact k x I d G n H
section
variable {w0 w w':World} {k:RmK} {s:RmS} {F F':List Nat}
theorem qI.noU (h:qI w0 w k s F):NoU w k.R:=by
 obtain⟨T,vp,N,x⟩:=h;obtain⟨xs,d,_⟩:=(x.all .pks).1.row;obtain⟨O,G,_⟩:=(x.all .reqs).1.row;obtain⟨J,c1,rfl⟩:=xl d;obtain⟨o2,c2,rfl⟩:=xl G;intro o I n H;rw[cell_of_row w k.R o _ _ _ x.blk];unfold zH
 match o with
 | 0 | 1 | 2 | 3 | 4 | 5 | 6 | 7 | 8 | 9 | 10 | 11 | 12 | 13 | 14 | 15 | 16 | 17 | 18 | 19 | 20=>simp;try (intro e;exact absurd e.symm H)
 | n+21=>simp
theorem Mt (h:qI w0 w k s F) (bA:zc s) (ap:Zy s) (b:List Int) (v:Value) (bL:SlI .u8 w v b) (d:Byt b) (cr:b.length<=1000000) (co:0<=s.cnt.malf/\s.cnt.malf<=1000000000/\0<=s.cnt.told/\s.cnt.told<=1000000000):
  Calls prog 130 #[γ k.R,v] w λe w'=>e= .returned (.tuple #[])/\qI w0 w' k (s.tell b) F/\qw F w w':=by
 have aw:=κ h;have ay:=κ (Dr b v w bL d cr);have an:=κ (GK (b:=b) d);have aM:=κ bA;have bZ:=κ ap;obtain⟨cT,cU,t0,t1⟩:=co;obtain⟨bp,aW⟩:=ν ((zx b).2);have bg:=κ aW;rw[aW] at ay an;obtain⟨cZ,cK,rfl,_⟩:=bL;clear h bA ap aW d;by_cases he:bp=0
 ·subst he;have ak:Hid (s.tell b=(xU (zx b).1).foldl RmS.tellS {s with cnt:={s.cnt with told:=s.cnt.told+1}}):=κ (by unfold RmS.tell;rw[if_pos bg.o]);obtain⟨bF,bu⟩:=ν ((zx b).1);rw[bu] at ay an ak;clear bu;obtain⟨bq,br⟩:=an.o rfl;have bV:=κ bq;have bW:=κ br;clear bq br an
  go_enter func130,ntmps130
  go_upto_region 3 with (go_at_call 188;(go_call ay.o as e w1 ⟨bN,rfl,s1,U⟩;have bm:=κ s1;have cj:=κ U;have ac:=κ (aw.o.on U);have aD:=κ (aw.o.stay U);clear s1 U))
  obtain⟨vp,cu,ab⟩:=ac.o.blk;have cI:=β19 ab;have cM:=qd ab 19;clear ab;have ad:=κ (ac.o.cell 19 (ι (s.cnt.told+1)) (s':={s with cnt:={s.cnt with told:=s.cnt.told+1}}) (λ_ _=>rfl) ⟨rfl,rfl,rfl,rfl,rfl,rfl,rfl,rfl,rfl⟩);have aT:=κ (PC bm.o (qg.set (S:=λb=>b=k.R) (qg.refl _ _) (p:=⟨k.R,19,none⟩) rfl (ι (s.cnt.told+1))) (λb d=>by rw[d];exact ac.o.noU));have bo:=κ (aD.o.trans ad.o.2);obtain⟨W2,bs⟩:=ν (w1.setCell ⟨k.R,19,none⟩ (ι (s.cnt.told+1)));rw[bs] at ad aT bo;obtain⟨st,aI⟩: ∃st:RmS,{s with cnt:={s.cnt with told:=s.cnt.told+1}}=st:=⟨_,rfl⟩;have aR:=κ ad.o.1;rw[aI] at aR ak;have ce:Hid (zc st):=κ (by rw[<-aI];exact⟨aM.o.keys,aM.o.lane,aM.o.few⟩);have ca:Hid (Zy st):=κ (by rw[<-aI];exact bZ.o);have bU:=κ (Wo bF bN W2 aT.o (by have:=bV.o;omega) bW.o);generalize xU bF=A at *;clear aI ad aT ac aD bm cj
  go_wp2_with (first | ((try rw[bs]);(go_at_call 189;(go_call bU.o as e cv ⟨db,rfl,⟨aa,bI⟩,aZ⟩;obtain⟨cA,dc,dh,bP⟩:=aR.o;obtain⟨cV,cap,av,rfl,cR,ar,bx⟩:=bP.ints aZ aa bI;have cc:=κ bx;have bS:=κ ar.at;have ck:=κ (bo.o.trans (aR.o.stay aZ));clear aa bI aZ bP ar bx))))
  go_loopw [41] (λah wr=> ∃j:Nat,j<=A.length/\ah= ι j/\qI w0 wr k ((A.take j).foldl RmS.tellS st) (av++F)/\qw (av++F) cv wr) (λah _=>A.length-(intOf ah).toNat)
  case atStart=>exact⟨0,τ,rfl,bS.o,qw.refl _ _⟩
  case round=>
   obtain⟨j,cQ,rfl,aq,J⟩:=hrel;have ax:=κ aq;have aQ:=κ J;clear aq J;by_cases hlt:j<A.length
   ·have cq:(j:Int)<(A.length:Int):=by omega
    obtain⟨cF,cX,rfl,cO⟩:=cc.o wr (λb d=>aQ.o.2 b (by simp[d])) j hlt;have ch:Hid (A.take (j+1)=A.take j++[A[j]]):=κ (by rw[List.take_add_one,List.getElem?_eq_getElem hlt];rfl);generalize A[j]=src at *;have bn:=κ (Ul (A.take j) st);generalize bC:(A.take j).foldl RmS.tellS st=sj at *;have cf:=κ bC;clear bC;obtain⟨cD,df,dk,bd⟩:=ax.o;have aO:=κ (bn.o.subs ce.o);have bj:=κ (FO bd.tab src aO.o.keys aO.o.few);obtain⟨L,aE⟩:=ν (prR (zV src) sj.tab.u);have bY:Hid (∀x∈L,∃bc l,qh sj.tab.u x=some bc/\qh sj.lanes x=some l):=κ (λx bD=>by rw[<-aE] at bD;exact Vq aO.o bD);have bX:Hid (sj.tellS src=L.foldl RmS.tell1 sj):=κ (by unfold RmS.tellS;rw[aE]);rw[aE] at bj;have cm:=β11 bd.blk;clear aE bd
    go_wp2_with (go_at_call 190;(go_call bj.o as e w4 ⟨⟨vb,rfl,bK,bJ⟩,ba⟩;obtain⟨cB,dd,di,ar⟩:=ax.o;obtain⟨cW,cJ,be,rfl,cS,bQ,bz⟩:=ar.ints ba bK bJ;have cd:=κ bz;have bT:=κ bQ.at;have cl:=κ (aQ.o.trans (ax.o.stay ba));clear bK bJ ba ar bQ bz))
    go_loopw [52] (λah wr=> ∃i:Nat,i<=L.length/\ah= ι i/\qI w0 wr k ((L.take i).foldl RmS.tell1 sj) (be++(av++F))/\qw (be++(av++F)) w4 wr) (λah _=>L.length-(intOf ah).toNat)
    case atStart=>exact⟨0,τ,rfl,bT.o,qw.refl _ _⟩
    case round=>
     obtain⟨i,hi,rfl,aq,J⟩:=hrel;have N:=κ aq;have ai:=κ J;clear aq J;by_cases hlt2:i<L.length
     ·have cp:(i:Int)<(L.length:Int):=by omega
      obtain⟨cG,cY,rfl,cP⟩:=cd.o wr (λb d=>ai.o.2 b (by simp[d])) i hlt2;have aB:Hid (L.take (i+1)=L.take i++[L[i]]):=κ (by rw[List.take_add_one,List.getElem?_eq_getElem hlt2];rfl);obtain⟨bc,l,aH,aG⟩:=bY.o _ (List.getElem_mem hlt2);generalize L[i]=x at *;have aU:=κ (QV (L.take i) sj);generalize bB:(L.take i).foldl RmS.tell1 sj=si at *;have az:=κ bB;clear bB;rw[<-aU.o.tab] at aH;rw[<-aU.o.lanes] at aG;obtain⟨cC,de,dj,au⟩:=N.o;have O:=κ au;have cb:=κ (aU.o.pub (bn.o.pub ca.o));obtain⟨ct,bw,bt⟩:=au.laneAt aG;have af:=κ (LH au.tab x);have bh:=κ bt;have bi:=κ aG;have aN:=κ aH;rw[aH] at af;simp only[Option.getD_some] at af;have cm:=β11 au.blk;obtain⟨s1,s2,aa⟩:=bc;simp only at af
      have aL:Hid (∀w',qa wr w'->(Instr.lookup 90 (.map (some k.ML)) (ι x) false).run prog w'= .ok (γ ct) w'):=κ (λw' m=>by
       have:=xq (O.o.lnm.more m) x false;rw[bw] at this
       exact this)
      clear au aG bt aH bw;cases s2 with
      | false=>
       have ae:Hid (si.tell1 x=si):=κ (by unfold RmS.tell1;rw[aN.o];rfl)
       go_wp2_with (go_at_call 90;(go_call af.o as e w5 ⟨rfl,G⟩;have H:=κ G;clear G))
       go_roundw
       case rel=>exact⟨i+1,τ,by go_num,by rw[aB.o,List.foldl_append,az.o];show qI w0 _ k (si.tell1 x) _;rw[ae.o];exact N.o.on H.o,ai.o.trans (N.o.stay H.o)⟩
       case measure=>simp[intOf];omega
      | true=>
       obtain⟨bH,aY⟩:=ν (l.wanted);obtain⟨I,aX⟩:=ν (l.cur);obtain⟨bG,bv⟩:=ν (l.tgt);have aA:=κ (λw m=>Xb (bh.o.on (w':=w) m));rw[aY,aX,bv] at aA;have ae:Hid (si.tell1 x=if bH&&jj I then (match qh si.strs (aa,I) with | none=>si | some t=>{si with strs:=qx si.strs (aa,I) {t with askedOf:=true}}) else si):=κ (by unfold RmS.tell1;rw[aN.o];simp only[bi.o,if_true];rw[aY,aX];rfl);clear aY aX bv bh bi;cases bH with
       | false=>
        have am:Hid (si.tell1 x=si):=κ (by rw[ae.o];rfl)
        go_wp2_with (first | (go_at_call 90;(go_call af.o as e w5 ⟨rfl,G⟩;have H:=κ G;have aV:=β12 (qc G O.o.blk);have bb:=aL.o w5 G;clear G)) | (go_at_call 67;(go_call aA.o _ H.o as e w6 ⟨rfl,Y⟩;have ag:=κ Y;clear Y)) | (go_at_call 89;(go_call aP.o _ as e bO ⟨rfl,rfl⟩)))
        go_roundw
        case rel=>exact⟨i+1,τ,by go_num,by rw[aB.o,List.foldl_append,az.o];show qI w0 _ k (si.tell1 x) _;rw[am.o];exact N.o.on ((H.o.trans ag.o).al _),ai.o.trans (N.o.stay ((H.o.trans ag.o).al _))⟩
        case measure=>simp[intOf];omega
       | true=>
        obtain⟨bM,aJ⟩:=ν (jj I);have aP:Hid (∀w,Calls prog 89 #[ι I] w λe w'=>e= .returned (μ bM)/\w'=w):=κ (λw=>by rw[<-aJ];exact Ub I w);rw[aJ] at ae;have ci:=κ aJ;clear aJ;cases bM with
        | false=>
         have am:Hid (si.tell1 x=si):=κ (by rw[ae.o];rfl)
         go_wp2_with (first | (go_at_call 90;(go_call af.o as e w5 ⟨rfl,G⟩;have H:=κ G;have aV:=β12 (qc G O.o.blk);have bb:=aL.o w5 G;clear G)) | (go_at_call 67;(go_call aA.o _ H.o as e w6 ⟨rfl,Y⟩;have ag:=κ Y;clear Y)) | (go_at_call 89;(go_call aP.o _ as e bO ⟨rfl,rfl⟩)))
         go_roundw
         case rel=>exact⟨i+1,τ,by go_num,by rw[aB.o,List.foldl_append,az.o];show qI w0 _ k (si.tell1 x) _;rw[am.o];exact N.o.on ((H.o.trans ag.o).al _),ai.o.trans (N.o.stay ((H.o.trans ag.o).al _))⟩
         case measure=>simp[intOf];omega
        | true=>
         obtain⟨t,J⟩:=Option.isSome_iff_exists.1 (cb.o x _ aN.o rfl I ci.o);have am:Hid (si.tell1 x={si with strs:=qx si.strs (aa,I) {t with askedOf:=true}}):=κ (by rw[ae.o];simp only[J];rfl);obtain⟨p,cz,dg,ap,bE⟩:=O.o.strAt J;have cg:=κ J;have bk:=κ ap;have bl:=κ bE;clear J ap bE ae
         go_upto_region 14 with (first | (go_at_call 90;(go_call af.o as e w5 ⟨rfl,G⟩;have H:=κ G;have aV:=β12 (qc G O.o.blk);have bb:=aL.o w5 G;clear G)) | (go_at_call 67;(go_call aA.o _ H.o as e w6 ⟨rfl,Y⟩;have ag:=κ Y;clear Y)) | (go_at_call 89;(go_call aP.o _ as e bO ⟨rfl,cn⟩;obtain rfl:=cn.symm)))
         obtain⟨aj,aF⟩:=ν (w6.alloc (.cells #[ι I,ι bG] 103));have aS:Hid (qa wr aj):=κ (by rw[<-aF];exact(H.o.trans ag.o).al _);have bR:Hid (aj.heap[w6.heap.size]? =some (.cells #[ι I,ι bG] 103 (0,0))):=κ (by rw[<-aF];exact qj w6 _)
         (try rw[aF])
         clear aF aV bb;have cw:=λ(x:qt aj)=>β13 (qc (aS.o.trans x.h) O.o.blk)
         have cy:=λ(x:qt aj)=>β0 (qc x.h bR.o)
         have cx: ∀x:qt aj,(Instr.lookup 91 (.map (some k.MS)) (θ #[ι aa,ι I]) false).run prog x.w'= .ok (γ p) x.w':=λx=>by
          have:=ya (O.o.stm.more (aS.o.trans x.h)) (aa,I) false;rw[bk.o] at this;exact this
         refine Qn aj 11 12 [9,11] ?_
         refine Qq9 ?_
         (refine Ql ?_;intro K ao)
         refine⟨qk ρ,ao _ _ ?_⟩;clear ao K
         refine Qq1 ?_
         have aC:=κ (aS.o.dr 1);have aK:=κ (qc aC.o bl.o.blk);have da:=β7 aK.o;have cN:=qd aK.o 7;have bf:=κ ((O.o.on aC.o).strSet (t':={t with askedOf:=true}) cg.o bk.o (bl.o.on aC.o) (qg.set (S:=λb=>b=p) (qg.refl _ _) (p:=⟨p,7,none⟩) rfl (μ true)) (qB (qp aK.o 7 _) rfl) rfl)
         (refine Qe ?_;intro K ao)
         refine ao _ _ ?_;clear ao K;refine qA ?_;go_wp2;go_roundw
         case rel=>exact⟨i+1,τ,by go_num,by rw[aB.o,List.foldl_append,az.o];show qI w0 _ k (si.tell1 x) _;rw[am.o];exact bf.o.1,ai.o.trans ((N.o.stay aC.o).trans bf.o.2)⟩
         case measure=>simp[intOf];omega
     ·obtain rfl:i=L.length:=by omega
      have cp: ¬(L.length:Int)<(L.length:Int):=by omega
      go_wp2;go_roundw
      case rel=>exact⟨j+1,τ,by go_num,by rw[ch.o,List.foldl_append,cf.o];show qI w0 _ k (sj.tellS src) _;rw[bX.o];have:=N.o;rw[List.take_length] at this;exact this.sub (λb d=>List.mem_append_right _ d),cl.o.trans (ai.o.sub (λb d=>List.mem_append_right _ d))⟩
      case measure=>simp[intOf];omega
   ·obtain rfl:j=A.length:=by omega
    have cq: ¬(A.length:Int)<(A.length:Int):=by omega
    go_wp2
    (refine bodyPost_end (v:= .tuple #[]) ?re1 rfl ?_;(case re1=>simp[results,results130,go_sem]))
    exact⟨rfl,by rw[ak.o];have:=ax.o;rw[List.take_length] at this;exact this.sub (λb d=>List.mem_append_right _ d),ck.o.trans (aQ.o.sub (λb d=>List.mem_append_right _ d))⟩
 ·have ak:Hid (s.tell b={s with cnt:={s.cnt with malf:=s.cnt.malf+1}}):=κ (by unfold RmS.tell;rw[bg.o,if_neg he]);have cE:(bp != 0)=true:=by simp[he]
  clear he an
  go_enter func130,ntmps130
  go_upto_region 2 with (go_at_call 188;(go_call ay.o as e w1 ⟨bN,rfl,s1,U⟩;have ac:=κ (aw.o.on U);have aD:=κ (aw.o.stay U);clear s1 U))
  obtain⟨vp,cu,ab⟩:=ac.o.blk;have cH:=β17 ab;have cL:=qd ab 17;clear ab;have ad:=κ (ac.o.cell 17 (ι (s.cnt.malf+1)) (s':={s with cnt:={s.cnt with malf:=s.cnt.malf+1}}) (λ_ _=>rfl) ⟨rfl,rfl,rfl,rfl,rfl,rfl,rfl,rfl,rfl⟩);go_wp2
  (refine bodyPost_ret (v:= .tuple #[]) ?re2 rfl ?_;(case re2=>simp[results,results130,go_sem]))
  exact⟨rfl,by rw[ak.o];exact ad.o.1,aD.o.trans ad.o.2⟩
end
section
variable {T:Nat->Tg} {w0 w w':World} {k k':RmK} {vp vr vp' vr':Value} {s s':RmS} {F:List Nat} {t1 t2:Tg}
theorem RmX.own2 (h:RmX T w0 w k vp vr s F) (H:t1≠ .no/\t1≠ .data) (J:t2≠ .no/\t2≠ .data) (a:qg (λb=>T b=t1∨T b=t2) w w')
  (aa:k'.Holds (jZ T t1 w w') w' vp' vr' s' t1) (ab:k'.Holds (jZ T t1 w w') w' vp' vr' s' t2)
  (rest: ∀u,u≠t1->u≠t2->u≠ .no->k.Holds (jZ T t1 w w') w' vp vr s u->k'.Holds (jZ T t1 w w') w' vp' vr' s' u):RmX (jZ T t1 w w') w0 w' k' vp' vr' s' F/\qw F w w':=by
 have I:=h.fresh
 have Y: ∀b,(T b=t1∨T b=t2)->w0.heap.size<=b:=λb d=>h.ge b (by
  rcases d with d | d
  ·rw[d];exact H.1
  ·rw[d];exact J.1)
 refine⟨⟨λu=> ?_,λb d=> ?_,λb d=> ?_,a.to_more h.more Y⟩,a.size,λb d=>a.block b (h.law b d).2.2 (λe=>by
  rcases e with e | e
  ·exact H.1 (by rw[<-e];exact(h.law b d).1)
  ·exact J.1 (by rw[<-e];exact(h.law b d).1))⟩
 ·by_cases e:u=t1
  ·subst e;exact aa
  ·by_cases e2:u=t2
   ·subst e2;exact ab
   ·by_cases en:u= .no
    ·subst en;exact Q9 I a.size
    ·refine rest u e e2 en (Holds.frame (h.all u) a (λb d=>⟨λG=> ?_,λG=> ?_⟩) (λb=>jF I en e b) (λb d=> ?_) en)
     ·rcases d with d | d
      ·exact e (G.symm.trans d)
      ·exact e2 (G.symm.trans d)
     ·rcases d with d | d
      ·exact H.2 (d.symm.trans G)
      ·exact J.2 (d.symm.trans G)
     ·exact(jF I η (Ne.symm H.2) b).2 d
 ·unfold jZ at d;split at d
  ·have:=h.more.size;omega
  ·exact h.ge b d
 ·obtain⟨N,O,U⟩:=h.law b d;refine⟨?_,O,Nat.lt_of_lt_of_le U a.size⟩;unfold jZ;rw[if_neg τ];exact N
theorem VO (H: ∀b,w.heap.size<=b->T b= .no) {t:Tg} (J:t≠ .no) {v v':Value} {W:World} (N: ∀g,v.ownBlock=some g->T g=t) (G:w.heap.size<=W.heap.size) (O:v'.ownBlock=v.ownBlock∨v'.ownBlock=some W.heap.size) (I: ∀g,v'.ownBlock=some g->g<w'.heap.size):
  ∀g,v'.ownBlock=some g->jZ T t w w' g=t:=λg d=>(jd H J g).2 (by
 rcases O with e | e
 ·exact Or.inl (N g (by rw[<-e];exact d))
 ·rw[e] at d;injection d with d
  subst d
  exact Or.inr ⟨rfl,G,I _ e⟩)
theorem RmX.pksPut (h:RmX T w0 w k vp vr s F) {W:World} {v':Value} {y:AcS} (a:qg (λb=>vp.ownBlock=some b∨b=k.R) w w') (Y:w.heap.size<=W.heap.size)
  (row:je 13 RAc (λb=>(T b≠ .data/\T b≠ .pks)/\b<w.heap.size) w' 0 65 v' (s.pks++[y])) (ac:v'.ownBlock=vp.ownBlock∨v'.ownBlock=some W.heap.size)
  (N:w'.heap[k.R]? =some (.cells (zH k v' vr s) 95 (0,0))):qI w0 w' k {s with pks:=s.pks++[y]} F/\qw F w w':=by
 obtain⟨I,_⟩:=h.all .room;obtain⟨_,J⟩:=h.all .pks;have G:=h.fresh;have ab:je 13 RAc (λb=>jZ T .pks w w' b≠ .data/\jZ T .pks w w' b≠ .pks) w' 0 65 v' (s.pks++[y]):=row.other λb d=>by
  by_cases e:b<w.heap.size
  ·refine Or.inl ⟨⟨λH=>d.1 ((jF G η η _).2 H),λH=>d.2 ((jd G η _).2 (Or.inl H))⟩,e⟩
  ·by_cases e3:b<w'.heap.size
   ·exact absurd ((jd G η _).2 (Or.inr ⟨rfl,τ,e3⟩)) d.2
   ·exact Or.inr τ
 obtain⟨x,y⟩:=h.own2 (k':=k) (t1:= .pks) (t2:= .room) (vp':=v') (vr':=vr) (s':={s with pks:=s.pks++[y]}) ⟨η,η⟩ ⟨η,η⟩ (a.mono λb d=>by
   rcases d with d | rfl
   ·exact Or.inl (J b d)
   ·exact Or.inr I)
  ⟨ab,VO G η J Y ac (λg aa=>row.lt aa)⟩
  ⟨(jF G η η _).2 I,N⟩
  (λu O U ad z=>by cases u<;>first | exact z | exact absurd rfl O | exact absurd rfl U)
 exact⟨⟨_,_,_,x⟩,y⟩
theorem RmX.reqsPut (h:RmX T w0 w k vp vr s F) {W:World} {v':Value} {y:RqS} (a:qg (λb=>vr.ownBlock=some b∨b=k.R) w w') (Y:w.heap.size<=W.heap.size)
  (row:je 4 RRq (λb=>(T b≠ .data/\T b≠ .reqs)/\b<w.heap.size) w' 0 296 v' (s.reqs++[y])) (ac:v'.ownBlock=vr.ownBlock∨v'.ownBlock=some W.heap.size)
  (N:w'.heap[k.R]? =some (.cells (zH k vp v' s) 95 (0,0))):qI w0 w' k {s with reqs:=s.reqs++[y]} F/\qw F w w':=by
 obtain⟨I,_⟩:=h.all .room;obtain⟨_,J⟩:=h.all .reqs;have G:=h.fresh;have ab:je 4 RRq (λb=>jZ T .reqs w w' b≠ .data/\jZ T .reqs w w' b≠ .reqs) w' 0 296 v' (s.reqs++[y]):=row.other λb d=>by
  by_cases e:b<w.heap.size
  ·refine Or.inl ⟨⟨λH=>d.1 ((jF G η η _).2 H),λH=>d.2 ((jd G η _).2 (Or.inl H))⟩,e⟩
  ·by_cases e3:b<w'.heap.size
   ·exact absurd ((jd G η _).2 (Or.inr ⟨rfl,τ,e3⟩)) d.2
   ·exact Or.inr τ
 obtain⟨x,y⟩:=h.own2 (k':=k) (t1:= .reqs) (t2:= .room) (vp':=vp) (vr':=v') (s':={s with reqs:=s.reqs++[y]}) ⟨η,η⟩ ⟨η,η⟩ (a.mono λb d=>by
   rcases d with d | rfl
   ·exact Or.inl (J b d)
   ·exact Or.inr I)
  ⟨ab,VO G η J Y ac (λg aa=>row.lt aa)⟩
  ⟨(jF G η η _).2 I,N⟩
  (λu O U ad z=>by cases u<;>first | exact z | exact absurd rfl O | exact absurd rfl U)
 exact⟨⟨_,_,_,x⟩,y⟩
theorem Ns (h:qI w0 w k s F) (sub id:Int):
  Calls prog 193 #[γ k.B,θ #[ι sub,ι id]] w λe w'=>(∃v,e= .returned (ι v))/\qI w0 w' k {s with book:=(vT s.book (sub,id)).1} F/\qw F w w'/\qg (λx=>x=k.b) w w':=by
 obtain⟨T,vp,H,x⟩:=h;refine(Nu x.bok (sub,id)).mono ?_;rintro e w' ⟨rfl,b,a⟩;obtain⟨d,G⟩:=x.book b a;exact⟨⟨_,rfl⟩,d,G,a⟩
end
end Go.Proofs.YtlmllmonabafjaaGreatDoor
