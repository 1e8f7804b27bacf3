/- Contracts of the functions that the law reaches, and plain laws; no conditions but those written at each. -/
import Derived.Test.YtdgippmmaponfaaGreatMg18
namespace Go.Proofs.YtdgippmmaponfaaGreat
open Go.Value renaming bool->μ,slice->δ,pointer->π,agg->θ
open Go.IntKind renaming i64->ι,u8->υ,u16->φ,u32->ω,i32->χ,u64->ψ
open _root_.Go.Proofs.Tryz
set_option linter.unusedSimpArgs false
set_option maxHeartbeats 8000000
set_option linter.unusedVariables false
open Go.RowKit
set_option maxRecDepth 100000
def acC (a:AcS) (vs ve vl:Value):List Value:=[.int .i64 a.o.1,.int .i64 a.o.2,.int .i64 a.num,.bool a.pk.mr,.int .u8 a.pk.ty,.int .u16 a.pk.sq,.int .u32 a.pk.st,.int .u32 a.pk.sc,vs,.bool a.pk.has,.int .u16 a.pk.pr,ve,vl]
def RmP (cs:List Value) (a:AcS) (w0 w:World) (k:RmK) (s:RmS) (F:List Nat):Prop:= ∃T vp vr,RmX T w0 w k vp vr s F/\jw RAc (λb=>T b≠ .data/\T b≠ .pks) w cs a
section
variable {T:Nat->Tg} {w0 w w':World} {k:RmK} {vp vr:Value} {s:RmS} {F:List Nat} {cs:List Value} {a:AcS}
theorem RmP.at (h:RmP cs a w0 w k s F):qI w0 w k s F:=by
 obtain⟨T,vp,d,x,_⟩:=h;exact⟨T,vp,d,x⟩
theorem RmP.on (h:RmP cs a w0 w k s F) (m:qa w w'):RmP cs a w0 w' k s F:=by
 obtain⟨T,vp,G,x,d⟩:=h;exact⟨T,vp,G,x.on m,d.step (qg.of_more m)⟩
theorem RmP.adds {Fn:List Nat} (h:RmP cs a w0 w k s F) (m:qa w w') (G: ∀b∈Fn,w.heap.size<=b/\b<w'.heap.size):RmP cs a w0 w' k s (Fn++F):=by
 obtain⟨T,vp,H,x,d⟩:=h;exact⟨T,vp,H,x.adds m G,d.step (qg.of_more m)⟩
theorem RmP.pk {H d G:Value} (h:RmP (acC a H d G) a w0 w k s F):PkS w H d G a.pk:=by
 obtain⟨T,vp,J,x,I⟩:=h;obtain⟨v1,v2,v3,e,pk⟩:=I.read;unfold acC at e;simp only[List.cons.injEq,and_true,true_and] at e;obtain⟨rfl,rfl,rfl⟩:=e;exact pk
theorem RmX.growP (h:RmX T w0 w k vp vr s F) {t:Tg} (G:t≠ .data) (H:t≠ .pks) (J:qg (λb=>T b=t) w w') (I:jw RAc (λb=>T b≠ .data/\T b≠ .pks) w cs a):jw RAc (λb=>jZ T t w w' b≠ .data/\jZ T t w w' b≠ .pks) w' cs a:=
 (I.step (J.mono λb d=>by rw[d];exact⟨G,H⟩)).other λb d=>Or.inl ⟨λe=>d.1 ((jF h.fresh η (Ne.symm G) b).2 e),λe=>d.2 ((jF h.fresh η (Ne.symm H) b).2 e)⟩
theorem RmX.lanePutX (h:RmX T w0 w k vp vr s F) {x:Int} {l l':LnS} {p:Nat} (O:qh s.lanes x=some l) (I:qh k.LA x=some p) (b:zw (xf (λb=>T b= .lane x) w w') w' p l') (a:qg (λb=>T b= .lane x) w w'):
  RmX (jZ T (.lane x) w w') w0 w' k vp vr {s with lanes:=qx s.lanes x l'} F/\qw F w w':=by
 have J:=h.fresh;exact h.own (t:= .lane x) (k':=k) (vp':=vp) (vr':=vr) (s':={s with lanes:=qx s.lanes x l'}) ⟨η,η⟩ a
  ⟨λaa Y G d=>by
   rw[I] at G;rw[xD] at d;injection G with G
   injection d with d
   subst G d;rw[wW J η]
   exact b,by rw[I,xD];rfl⟩
  (λu M U y=>by
   cases u<;>first | exact y | skip
   rename_i N;have H:N≠x:=λe=>M (by rw[e])
   exact⟨λp l G d=>y.1 p l G (by rw[vF _ _ H] at d;exact d),by rw[vF _ _ H];exact y.2⟩)
theorem RmX.bookX (h:RmX T w0 w k vp vr s F) {m:Bk} (b:jy w' k.B k.b m) (a:qg (λx=>x=k.b) w w'):RmX (jZ T .book w w') w0 w' k vp vr {s with book:=m} F/\qw F w w':=by
 obtain⟨H,d,_⟩:=h.all .book;have G:=h.fresh;exact h.own (t:= .book) (k':=k) (vp':=vp) (vr':=vr) (s':={s with book:=m}) ⟨η,η⟩ (a.mono λb I=>by rw[I];exact d) ⟨(jd G η _).2 (Or.inl H),(jd G η _).2 (Or.inl d),b⟩ (λu J M x=>by cases u<;>first | exact x | exact absurd rfl J)
theorem CD (h:RmP cs a w0 w k s F) (sub id f:Int):
  Calls prog 128 #[θ #[γ k.B],ι sub,ι id,ι f] w λe w'=>e= .returned (.tuple #[])/\RmP cs a w0 w' k {s with book:=jp s.book sub id f} F/\qw F w w':=by
 obtain⟨T,vp,N,x,G⟩:=h;have J:=(x.all .book).2.1;refine(gI x.bok sub id f).mono ?_;rintro e w' ⟨rfl,b,d⟩;obtain⟨H,I⟩:=x.bookX b d;exact⟨rfl,⟨_,_,_,H,x.growP η η (d.mono λb M=>by rw[M];exact J) G⟩,I⟩
theorem Mz (h:RmP cs a w0 w k s F) (x:ItS) (os J M:Option Addr) (I ke H:Nat) (af:PkS w (δ os x.pk.ss.length I) (δ J x.pk.ex.length ke) (δ M x.pk.pl.length H) x.pk) (ae:uf x.pk) (ag:uj x.pk)
  {sub:Int} {l:LnS} {pl:Nat} (N:qh s.lanes sub=some l) (U:qh k.LA sub=some pl):
  Calls prog 141 #[γ pl,(Γj x os I J ke M H)] w λe w'=>e= .returned (.tuple #[ι (xp l x).2.1,μ (xp l x).2.2.1,ι (xp l x).2.2.2])/\
   RmP cs a w0 w' k {s with lanes:=qx s.lanes sub (xp l x).1} F/\qw F w w'/\qg (λb=>b≠k.R/\b≠k.ML/\b∉F) w w':=by
 obtain⟨T,vp,aj,y,Y⟩:=h;have aa:=(y.all .room).1;have ab:=(y.all .lns).1;have ac:=y.law;obtain⟨p2,O,ad⟩:=y.laneAt N;obtain rfl:p2=pl:=by rw[U] at O;injection O with e;exact e.symm
 refine(Ij ad x os J M I ke H af ae ag).mono ?_;rintro e w' ⟨rfl,b,G⟩;obtain⟨ah,ai⟩:=y.lanePutX N U b G;exact⟨rfl,⟨_,_,_,ah,y.growP η η G Y⟩,ai,G.mono λb d=>⟨λe=>by rw[e,aa] at d;(cases d),λe=>by rw[e,ab] at d;(cases d),λe=>by rw[(ac b e).1] at d;(cases d)⟩⟩
theorem RmX.pkRow (h:RmX T w0 w k vp vr s F) {i:Nat} (hi:i<s.pks.length): ∃g cap os H I G ke d,vp= δ (some ⟨g,0,none⟩) s.pks.length cap/\T g= .pks/\g<w.heap.size/\(∀j v,(acC s.pks[i] (δ os s.pks[i].pk.ss.length G) (δ H s.pks[i].pk.ex.length ke) (δ I s.pks[i].pk.pl.length d))[j]? =some v->w.cell? ⟨g,i* 13+j,none⟩=some v)/\
  RmP (acC s.pks[i] (δ os s.pks[i].pk.ss.length G) (δ H s.pks[i].pk.ex.length ke) (δ I s.pks[i].pk.pl.length d)) s.pks[i] w0 w k s F:=by
 obtain⟨⟨⟨xs,U,r⟩,_⟩,ab⟩:=h.all .pks;rcases id U.2 with ⟨_,ac⟩ | ⟨g,cap,cur,rfl,ae,M,ad,af,_⟩
 ·omega
 ·have N:=r i hi;obtain⟨ai,ag,ah,e,pk⟩:=N.read;obtain⟨os,G,rfl,_⟩:=id pk.s;obtain⟨H,ke,rfl,_⟩:=id pk.e;obtain⟨I,d,rfl,_⟩:=id pk.l;refine⟨g,cap,os,H,I,G,ke,d,rfl,ab g rfl,lt_of_block M,λj v O=> ?_,T,_,vr,h, ?_⟩
  ·have aa:j<13:=by
    have:=(List.getElem?_eq_some_iff.1 O).1
    simpa [acC] using this
   rw[U.cellAt _ τ];have J:=congrArg (λl:List Value=>l[j]?) e;simp only[List.getElem?_take,List.getElem?_drop] at J;rw[if_pos aa] at J;rw[J];exact O
  ·have Y:(xs.drop (i* 13)).take 13=acC s.pks[i] (δ os s.pks[i].pk.ss.length G) (δ H s.pks[i].pk.ex.length ke) (δ I s.pks[i].pk.pl.length d):=e;rw[<-Y];exact N.other λb M=>Or.inl (Or.inl M)
end
section
variable {T:Nat->Tg} {w0 w w':World} {k:RmK} {vp vr:Value} {s:RmS} {F:List Nat}
theorem Ho (H:qI w0 w k s F):Calls prog 33 #[γ k.R] w λe w'=>e= .returned (ι s.shut.2)/\qI w0 w' k s.shut.1 F/\qw F w w':=by
 have J:=κ H;obtain⟨vp,aa,d⟩:=H.blk;have O:=β7 d;have Y:=qd d 7;obtain⟨U,I⟩:=ν (s.closed);rw[I] at O;have N:=κ I;clear I H d;cases U with
 | true=>
  have G:Hid (s.shut=(s,7)):=κ (by unfold RmS.shut;rw[if_pos N.o]);rw[G.o]
  go_enter func33,ntmps33
  go_wp2;go_ret;exact⟨rfl,J.o,qw.refl _ _⟩
 | false=>
  have G:Hid (s.shut=({s with closed:=true},0)):=κ (by unfold RmS.shut;rw[if_neg (by rw[N.o];decide)]);have M:=κ (J.o.cell 7 (μ true) (s':={s with closed:=true}) (λ_ _=>rfl) ⟨rfl,rfl,rfl,rfl,rfl,rfl,rfl,rfl,rfl⟩);rw[G.o]
  go_enter func33,ntmps33
  go_wp2;go_ret;exact⟨rfl,M.o.1,M.o.2⟩
theorem Lj (h:qI w0 w k s F):Calls prog 34 #[γ k.R] w λe w'=>e= .returned (ι s.clock)/\qa w w':=by
 obtain⟨vp,H,d⟩:=h.blk;have G:=β9 d;clear d h
 go_enter func34,ntmps34
 go_wp2;go_ret;exact⟨rfl,qa.refl _⟩
theorem FF (h:qI w0 w k s F):Calls prog 10 #[γ k.R] w λe w'=>e= .returned (θ #[ι s.cnt.lost,ι s.cnt.malf,ι s.cnt.strange,ι s.cnt.told,ι s.cnt.acc])/\qa w w':=by
 obtain⟨vp,O,G⟩:=h.blk;have d:=κ (qs G (.cells #[ι 0,ι 0,ι 0,ι 0,ι 0] 45));have H:=β16 d.o;have I:=β17 d.o;have J:=β18 d.o;have M:=β19 d.o;have N:=β20 d.o;clear G h
 go_enter func10,ntmps10
 go_wp2
 (refine bodyPost_ret (v:= θ #[ι s.cnt.lost,ι s.cnt.malf,ι s.cnt.strange,ι s.cnt.told,ι s.cnt.acc]) ?rr1 rfl ?_;(case rr1=>(simp[results,results10,go_sem,H])))
 exact⟨rfl,qa.alloc _ _⟩
theorem CK {B b:Nat} {m:Bk} (h:jy w B b m) (sub:Int) (J:m.length<=1000000):
  Calls prog 21 #[θ #[γ B],ι sub] w λe w'=>(∃v,e= .returned v/\SlI .i64 w' v (jz m sub))/\qa w w':=by
 have G:=κ (Yc (h.more (qa.alloc w (.cells #[γ B] 79))) sub J);clear h
 go_enter func21,ntmps21
 go_wp2_with (go_at_call 70;(go_call G.o as e w1 ⟨⟨v,rfl,s1,_⟩,d⟩;have I:=κ s1;have H:=κ d;clear s1 d))
 go_ret;exact⟨⟨_,rfl,I.o⟩,(qa.alloc _ _).trans H.o⟩
theorem Ls {B b:Nat} {m:Bk} (h:jy w B b m) (sub:Int) (N:m.length<=1000000):
  Calls prog 22 #[θ #[γ B],ι sub] w λe w'=>e= .returned (θ (xH sub m))/\qa w w':=by
 have I:=κ ((qa.alloc w (.cells #[γ B] 79)).al (.cells #[ι 0,ι 0,ι 0,ι 0,ι 0,ι 0,ι 0,ι 0,ι 0] 89));have H:=κ (F4 (h.more I.o) sub N);have J:Hid (((w.alloc (.cells #[γ B] 79)).alloc (.cells #[ι 0,ι 0,ι 0,ι 0,ι 0,ι 0,ι 0,ι 0,ι 0] 89)).heap[w.heap.size+1]? =some (.cells #[ι 0,ι 0,ι 0,ι 0,ι 0,ι 0,ι 0,ι 0,ι 0] 89 (0,0))):=κ (qC η);clear h;unfold xH at H ⊢
 go_enter func22,ntmps22
 go_wp2_with (go_at_call 71;(go_call H.o as e ac ⟨rfl,G⟩;have M:=κ (I.o.trans G);have d:=κ (qc G J.o);have z0:=β0 d.o;have O:=β1 d.o;have U:=β2 d.o;have z3:=β3 d.o;have z4:=β4 d.o;have z5:=β5 d.o;have Y:=β6 d.o;have aa:=β7 d.o;have ab:=β8 d.o;have ad:=qd d.o 0;have ae:=qd d.o 1;have af:=qd d.o 2;have ag:=qd d.o 3;have ah:=qd d.o 4;have ai:=qd d.o 5;have aj:=qd d.o 6;have ak:=qd d.o 7;have am:=qd d.o 8;clear G))
 (refine bodyPost_ret (v:= θ (xH sub m)) ?rr2 rfl ?_;(case rr2=>(simp[results,results22,go_sem,z0,O,U,z3,z4,z5,Y,aa,ab,xH])))
 exact⟨rfl,((((((((M.o.st (Nat.le_add_right _ _) _).st (Nat.le_add_right _ _) _).st (Nat.le_add_right _ _) _).st (Nat.le_add_right _ _) _).st (Nat.le_add_right _ _) _).st (Nat.le_add_right _ _) _).st (Nat.le_add_right _ _) _).st (Nat.le_add_right _ _) _).st (Nat.le_add_right _ _) _⟩
theorem RmX.laneDel (h:RmX T w0 w k vp vr s F) {x:Int} (m:jk w' k.ML (Value.int .i64) gj (yK k.LA x)) (a:qg (λb=>b=k.ML) w w'):
  qI w0 w' {k with LA:=yK k.LA x} {s with lanes:=Yh s.lanes x} F/\qw F w w':=by
 obtain⟨d,J⟩:=h.all .lns;have I:=J.keys;have H:=h.fresh;obtain⟨y,z⟩:=h.own (t:= .lns) (k':={k with LA:=yK k.LA x}) (vp':=vp) (vr':=vr) (s':={s with lanes:=Yh s.lanes x}) ⟨η,η⟩ (a.mono λb G=>by rw[G];exact d) ⟨(jd H η _).2 (Or.inl d),m⟩
  (λu M O y=>by
   cases u<;>first | exact y | exact absurd rfl M | skip
   rename_i N;unfold RmK.Holds at y ⊢;simp only;rw[gD I,uR];by_cases e:N=x
   ·rw[if_pos e,if_pos e];exact⟨λp l c=>(by cases c),rfl⟩
   ·rw[if_neg e,if_neg e]
    exact y)
 exact⟨y.at,z⟩
theorem KK {t:TS} (h:RmX T w0 w k vp vr s F) (b:jq w' k.tb k.ta k.tc k.td t) (a:qg (λx=>x=k.td) w w'):qI w0 w' k {s with tab:=t} F/\qw F w w':=
 h.table b (a.mono λ_ e=>Or.inr (Or.inr e))
theorem Lh (aq:qI w0 w k s F) (ai:s.book.length<=900000) (x:Int):
  Calls prog 41 #[γ k.R,ι x] w λe w'=> ∃k',k'.R=k.R/\e= .returned (ι (s.leave x).2)/\qI w0 w' k' (s.leave x).1 F/\qw F w w':=by
 obtain⟨T,vp,aA,Y⟩:=aq;have U:=κ Y;have ao:=β7 Y.blk;have ax:=β11 Y.blk;obtain⟨ap,ad⟩:=ν (s.closed);rw[ad] at ao;have aa:=κ ad;have am:=κ ai;clear ad Y ai;cases ap with
 | true=>
  have H:Hid (s.leave x=(s,7)):=κ (by unfold RmS.leave;rw[if_pos aa.o]);rw[H.o]
  go_enter func41,ntmps41
  go_wp2;go_ret;exact⟨k,rfl,rfl,U.o.at,qw.refl _ _⟩
 | false=>
  have O:=κ (FC U.o.tab x);obtain⟨ab,d⟩:=ν ((zW s.tab x).2);obtain⟨al,M⟩:=ν ((zW s.tab x).1);rw[d,M] at O;by_cases e0:ab=0
  ·subst e0;have H:Hid (s.leave x=({s with tab:=al,book:=vM s.book x 7,lanes:=Yh s.lanes x},0)):=κ (by unfold RmS.leave;rw[if_neg (by rw[aa.o];decide),if_pos d,M]);rw[H.o];clear d M
   go_enter func41,ntmps41
   go_wp2_with (first | (go_at_call 92;(go_call O.o as e w1 ⟨rfl,J,I⟩;have G:=κ (KK U.o J I);obtain⟨_,_,ae⟩:=G.o.1.blk;have aw:=β0 ae;clear J I ae)) | (go_at_call 93;(go_call LJ G.o.1 x (by have:=am.o;show s.book.length<=1000000;omega) as e w2 ⟨⟨v2,rfl⟩,ac,t2,_⟩;obtain⟨ag,az,aB,N⟩:=ac;have au:=κ N;have ag:=κ t2;have ay:=β12 N.blk;obtain⟨w9,ak,aj,ah,_⟩:=N.lnm.drop kE underlying83 x 0;have ak: ∀ty,(Builtin.delete_ #[83,3] ty #[.map (some k.ML),ι x]).run prog w2= .ok (.tuple #[]) w9:=λ_=>ak;have af:=κ (N.laneDel aj ah);clear aj ah N t2)))
   go_ret;exact⟨{k with LA:=yK k.LA x},rfl,rfl,af.o.1,G.o.2.trans (ag.o.trans af.o.2)⟩
  ·have av:(ab != 0)=true:=by simp[e0]
   have H:Hid (s.leave x=(s,ab)):=κ (by unfold RmS.leave;rw[if_neg (by rw[aa.o];decide),d,if_neg e0])
   have an:Hid (al=s.tab):=κ (by
    rw[<-M];unfold zW at d ⊢;split
    ·rename_i ar;rw[if_pos ar] at d;split
     ·rename_i ac;rw[if_pos ac] at d;exact absurd d.symm e0
     ·rfl
    ·rfl)
   rw[an.o] at O;rw[H.o];clear d M e0
   go_enter func41,ntmps41
   go_wp2_with (go_at_call 92;(go_call O.o as e w1 ⟨rfl,J,I⟩;have G:=κ (KK U.o J I);clear J I))
   go_ret;exact⟨k,rfl,rfl,G.o.1,G.o.2⟩
end
section
variable {T:Nat->Tg} {w0 w w':World} {k:RmK} {vp vr:Value} {s:RmS} {F:List Nat}
theorem Ak (h:RmX T w0 w k vp vr s F) {x:Int} {l:LnS} {p:Nat} (d:qh s.lanes x=some l) (G:qh k.LA x=some p) (n:Int):
  Calls prog 77 #[γ p,ι n] w λe w'=>e= .returned (ι (jO l n).2)/\qI w0 w' k {s with lanes:=qx s.lanes x (jO l n).1} F/\qw F w w':=by
 obtain⟨p2,H,I⟩:=h.laneAt d;obtain rfl:p2=p:=by rw[G] at H;injection H with e;exact e.symm
 refine(Ed I n).mono ?_;rintro e w' ⟨rfl,b,a⟩;exact⟨rfl,h.lanePut d G b a⟩
theorem Ms (ar:qI w0 w k s F) (ai:zc s) (x n:Int):
  Calls prog 40 #[γ k.R,ι x,ι n] w λe w'=>e= .returned (ι (s.want x n).2)/\qI w0 w' k (s.want x n).1 F/\qw F w w':=by
 obtain⟨T,vp,aA,aa⟩:=ar;have d:=κ aa;have al:=κ ai;have ap:=β7 aa.blk;have aw:=β11 aa.blk;obtain⟨aq,ab⟩:=ν (s.closed);rw[ab] at ap;have af:=κ ab;clear ab aa ai;cases aq with
 | true=>
  have G:Hid (s.want x n=(s,7)):=κ (by unfold RmS.want;rw[if_pos af.o]);rw[G.o]
  go_enter func40,ntmps40
  go_wp2;go_ret;exact⟨rfl,d.o.at,qw.refl _ _⟩
 | false=>
  have I:Hid (s.want x n=if (decide (0<=x/\x<6)&&jj n)=false then (s,1) else if ((qh s.tab.u x).getD sb0).2.1=false then (s,5) else (match qh s.lanes x with
   | none=>(s,0)
   | some l=>({s with lanes:=qx s.lanes x (jO l n).1},(jO l n).2))):=κ (by unfold RmS.want;rw[if_neg (by rw[af.o];decide)];rfl)
  obtain⟨av,ae⟩:=ν (jj n);have U:=κ (λw=>Ub n w);rw[ae] at U I;by_cases h1:x<0
  ·have G:Hid (s.want x n=(s,1)):=κ (by rw[I.o,decide_eq_false τ,if_pos (by rfl)]);rw[G.o]
   go_enter func40,ntmps40
   go_wp2;go_ret;exact⟨rfl,d.o.at,qw.refl _ _⟩
  ·by_cases h2:x<6
   ·cases av with
    | false=>
     have G:Hid (s.want x n=(s,1)):=κ (by rw[I.o,Bool.and_false,if_pos rfl]);rw[G.o];clear ae
     go_enter func40,ntmps40
     go_wp2_with (go_at_call 75;(go_call U.o _ as e w1 ⟨rfl,M⟩;obtain rfl:=M))
     go_ret;exact⟨rfl,d.o.at,qw.refl _ _⟩
    | true=>
     have N:Hid (s.want x n=if ((qh s.tab.u x).getD sb0).2.1=false then (s,5) else (match qh s.lanes x with
      | none=>(s,0)
      | some l=>({s with lanes:=qx s.lanes x (jO l n).1},(jO l n).2))):=κ (by rw[I.o,decide_eq_true τ,if_neg ζ])
     have O:=κ (LH d.o.tab x);obtain⟨au,ad⟩:=ν ((qh s.tab.u x).getD sb0);rw[ad] at O N;have am:=κ ad;clear ae ad I;obtain⟨s1,s2,az⟩:=au;simp only at O N;cases s2 with
     | false=>
      have G:Hid (s.want x n=(s,5)):=κ (by rw[N.o,if_pos rfl]);rw[G.o]
      go_enter func40,ntmps40
      go_wp2_with (first | (go_at_call 75;(go_call U.o _ as e w1 ⟨rfl,M⟩;obtain rfl:=M)) | (go_at_call 91;(go_call O.o as e w2 ⟨rfl,H⟩;have J:=κ H;clear H)))
      go_ret;exact⟨rfl,d.o.at.on J.o,d.o.at.stay J.o⟩
     | true=>
      have ah:(qh s.lanes x).isSome=true:=by
       rw[<-al.o.lane];have:=am.o;cases hu:qh s.tab.u x with
       | none=>rw[hu] at this;simp only[Option.getD_none] at this;unfold sb0 at this;injection this with _ q;injection q with q _;(try cases q)
       | some y=>rfl
      obtain⟨l,Y⟩:=Option.isSome_iff_exists.1 ah;obtain⟨p,ac,_⟩:=d.o.laneAt Y;have G:Hid (s.want x n=({s with lanes:=qx s.lanes x (jO l n).1},(jO l n).2)):=κ (by rw[N.o,if_neg ζ,Y]);have an:=κ (λw' (m:qa w w')=>Ak (d.o.on m) Y ac n)
      have ak:Hid (∀w',qa w w'->(Instr.lookup 83 (.map (some k.ML)) (ι x) false).run prog w'= .ok (γ p) w'):=κ (λw' m=>by
       have:=xq (d.o.lnm.more m) x false;rw[ac] at this
       exact this)
      rw[G.o];clear ah Y ac
      go_enter func40,ntmps40
      go_wp2_with (first | (go_at_call 75;(go_call U.o _ as e w1 ⟨rfl,M⟩;obtain rfl:=M)) | (go_at_call 91;(go_call O.o as e w2 ⟨rfl,H⟩;have J:=κ H;have ax:=β12 (qc H d.o.blk);have ay:=ak.o _ H;clear H)) | (go_at_call 77;(go_call an.o _ J.o as e aB ⟨rfl,ag,t3⟩;have aj:=κ ag;have ao:=κ t3;clear ag t3)))
      go_ret;exact⟨rfl,aj.o,(d.o.at.stay J.o).trans ao.o⟩
   ·have G:Hid (s.want x n=(s,1)):=κ (by rw[I.o,decide_eq_false τ,if_pos (by rfl)]);rw[G.o]
    go_enter func40,ntmps40
    go_wp2;go_ret;exact⟨rfl,d.o.at,qw.refl _ _⟩
theorem Vr {t:TS} {x p:Int} (h: ¬(vL t x p).2=0):(vL t x p).1=t:=by
 unfold vL at h ⊢
 repeat' split
 all_goals first | rfl | skip
 rename_i d G H;rw[if_pos d,if_pos G,if_neg H] at h;exact absurd rfl h
theorem GC {t:TS} {x p:Int} (h:qh t.u x=none): ¬(vL t x p).2=0:=by
 unfold vL;rw[h];split<;>simp
theorem XM (aI:qI w0 w k s F) (aw:zc s) (x p n:Int):
  Calls prog 25 #[γ k.R,ι x,ι p,ι n] w λe w'=>e= .returned (ι (s.subscribe x p n).2)/\qI w0 w' k (s.subscribe x p n).1 F/\qw F w w':=by
 obtain⟨T,vp,aP,an⟩:=aI;have d:=κ an;have aC:=κ aw;have aG:=β7 an.blk;obtain⟨aH,am⟩:=ν (s.closed);rw[am] at aG;have ad:=κ am;clear am an aw;cases aH with
 | true=>
  have G:Hid (s.subscribe x p n=(s,7)):=κ (by unfold RmS.subscribe;rw[if_pos ad.o]);rw[G.o]
  go_enter func25,ntmps25
  go_wp2;go_ret;exact⟨rfl,d.o.at,qw.refl _ _⟩
 | false=>
  obtain⟨aK,J⟩:=ν (jj n);have Y:=κ (λw=>Ub n w);rw[J] at Y;cases aK with
  | false=>
   have G:Hid (s.subscribe x p n=(s,1)):=κ (by unfold RmS.subscribe;rw[if_neg (by rw[ad.o];decide),if_pos J]);rw[G.o];clear J
   go_enter func25,ntmps25
   go_wp2_with (go_at_call 75;(go_call Y.o _ as e w1 ⟨rfl,N⟩;obtain rfl:=N))
   go_ret;exact⟨rfl,d.o.at,qw.refl _ _⟩
  | true=>
   have aN:=β12 d.o.blk;have q:_:=xq d.o.lnm x true;simp only[if_true] at q;obtain⟨U,H⟩:=ν ((vL s.tab x p).2);obtain⟨ax,ab⟩:=ν ((vL s.tab x p).1);cases hl:qh s.lanes x with
   | none=>
    have av:=d.o.laneNo hl;rw[av] at q
    replace q:(Instr.lookup 83 (.map (some k.ML)) (ι x) true).run prog w= .ok (.tuple #[π none,false]) w:=q
    have al:qh s.tab.u x=none:=by
     have:=aC.o.lane x;rw[hl] at this;cases al:qh s.tab.u x with
     | none=>rfl
     | some y=>rw[al] at this;cases this
    have ak:=GC (p:=p) al;have ag:=Vr ak
    have G:Hid (s.subscribe x p n=(s,U)):=κ (by
     unfold RmS.subscribe JV
     rw[if_neg (by rw[ad.o];decide),if_neg (by rw[J];decide),hl,if_neg ζ,if_neg ak,H])
    have O:=κ (Jf d.o.tab x p);rw[ag,H] at O;have aF:(U != 0)=true:=by rw[<-H];simp[ak]
    have ar:=β11 d.o.blk;rw[G.o];clear J hl av al ak ag H ab
    go_enter func25,ntmps25
    go_wp2_with (first | (go_at_call 75;(go_call Y.o _ as e w1 ⟨rfl,N⟩;obtain rfl:=N)) | (go_at_call 76;(go_call O.o as e w2 ⟨rfl,aq,ap⟩;have ao:=κ (KK d.o aq ap);clear aq ap)))
    go_ret;exact⟨rfl,ao.o.1,ao.o.2⟩
   | some l=>
    obtain⟨aJ,af,aj⟩:=d.o.laneAt hl;rw[af] at q
    replace q:(Instr.lookup 83 (.map (some k.ML)) (ι x) true).run prog w= .ok (.tuple #[γ aJ,true]) w:=q
    have ah:=κ (JB aj);have aA:=κ hl;have aB:=κ af;obtain⟨g,aa⟩:=ν (l.gone);rw[aa] at ah;cases g with
    | true=>
     have G:Hid (s.subscribe x p n=(s,5)):=κ (by
      unfold RmS.subscribe JV
      rw[if_neg (by rw[ad.o];decide),if_neg (by rw[J];decide),hl,if_pos aa])
     rw[G.o];clear J hl af aj aa H ab
     go_enter func25,ntmps25
     go_wp2_with (first | (go_at_call 75;(go_call Y.o _ as e w1 ⟨rfl,N⟩;obtain rfl:=N)) | (go_at_call 69;(go_call ah.o as e w2 ⟨rfl,M⟩;have I:=κ M;clear M)))
     go_ret;exact⟨rfl,d.o.at.on I.o,d.o.at.stay I.o⟩
    | false=>
     have O:=κ (λw' (m:qa w w')=>Jf (d.o.tab.more m) x p);have ai:s.subscribe x p n=if U=0 then ({s with tab:=ax,lanes:=qx s.lanes x (jO l n).1},(jO l n).2) else (s,U):=by
      unfold RmS.subscribe JV;rw[if_neg (by rw[ad.o];decide),if_neg (by rw[J];decide),hl];simp only;rw[if_neg (by rw[aa];decide),H,ab]
     by_cases e0:U=0
     ·subst e0;have G:Hid (s.subscribe x p n=({s with tab:=ax,lanes:=qx s.lanes x (jO l n).1},(jO l n).2)):=κ (by rw[ai,if_pos rfl]);rw[H,ab] at O;rw[G.o];clear J hl af aj aa H ab ai
      go_enter func25,ntmps25
      go_wp2_with (first | (go_at_call 75;(go_call Y.o _ as e w1 ⟨rfl,N⟩;obtain rfl:=N)) | (go_at_call 69;(go_call ah.o as e w2 ⟨rfl,M⟩;have I:=κ M;have ar:=β11 (qc M d.o.blk);clear M)) | (go_at_call 76;(go_call O.o _ I.o as e aL ⟨rfl,ae,a3⟩;have ac:=κ (KK (d.o.on I.o) ae a3);obtain⟨aM,aO,aQ,ay⟩:=ac.o.1;have aD:=κ (Ak ay aA.o aB.o n);clear ae a3 ay)) | (go_at_call 77;(go_call aD.o as e w4 ⟨rfl,au,t4⟩;have az:=κ au;have aE:=κ t4;clear au t4)))
      go_ret;exact⟨rfl,az.o,(d.o.at.stay I.o).trans (ac.o.2.trans aE.o)⟩
     ·have ag:=Vr (t:=s.tab) (x:=x) (p:=p) (by rw[H];exact e0);have G:Hid (s.subscribe x p n=(s,U)):=κ (by rw[ai,if_neg e0]);rw[H,ag] at O;have aF:(U != 0)=true:=by simp[e0]
      rw[G.o];clear J hl af aj aa H ab ai ag e0
      go_enter func25,ntmps25
      go_wp2_with (first | (go_at_call 75;(go_call Y.o _ as e w1 ⟨rfl,N⟩;obtain rfl:=N)) | (go_at_call 69;(go_call ah.o as e w2 ⟨rfl,M⟩;have I:=κ M;have ar:=β11 (qc M d.o.blk);clear M)) | (go_at_call 76;(go_call O.o _ I.o as e aL ⟨rfl,ae,a3⟩;have ac:=κ (KK (d.o.on I.o) ae a3);clear ae a3)))
      go_ret;exact⟨rfl,ac.o.1,(d.o.at.stay I.o).trans ac.o.2⟩
end
section
open Go.RowKit Go.Lib
theorem Ll (w:World):Calls prog 256 #[δ none 0 0] w λe w'=>e= .returned (δ none 0 0)/\w'=w:=by
 go_enter func256,ntmps256
 go_wp2
 go_loopw [3,10] (λv d wr=>v= δ none 0 0/\d= ι 0/\wr=w) (λ_ _ _=>0)
 case atStart=>exact⟨rfl,rfl,rfl⟩
 case round=>
  obtain⟨rfl,rfl,rfl⟩:=hrel;go_wp2;go_ret;exact⟨rfl,rfl⟩
theorem An (d:Int) (w:World):Calls prog 253 #[θ #[ι 1,ω 0,ω d,(),()]] w λe w'=>e= .returned (μ true)/\qa w w':=by
 go_enter func253,ntmps253
 go_wp2;go_ret;exact⟨rfl,ρ⟩
theorem Lm (w:World):Calls prog 252 #[Γd] w λe w'=>e= .returned (μ true)/\qa w w':=by
 have d: ∀w:World,(binOp .eql 249 (θ #[ω 0,ω 0,ω 0,ω 0,ω 0]) (θ #[ω 0,ω 0,ω 0,ω 0,ω 0])).run prog w= .ok (μ true) w:=λw=>by kernel_rfl
 go_enter func252,ntmps252
 go_wp2;go_ret;exact⟨rfl,ρ⟩
theorem Ln (w:World):Calls prog 250 #[θ #[υ 0,υ 0,()]] w λe w'=>e= .returned (μ true)/\qa w w':=by
 go_enter func250,ntmps250
 go_wp2;go_ret;exact⟨rfl,ρ⟩
theorem MF (w:World):Calls prog 257 #[ι 1] w λe w'=>e= .returned (.tuple #[υ 206,υ 1])/\w'=w:=by
 go_enter func257,ntmps257
 go_wp2
 go_ret2
 exact⟨rfl,rfl⟩
theorem gA (d:Int):(qy 0 4++qy d 4).length=8:=by rw[List.length_append,Hw,Hw]
theorem Lk (d:Int) (aq:0<=d/\d<=4294967295) (w:World):Calls prog 238 #[θ #[ι 1,ω 0,ω d,(),()]] w λe w'=> ∃ob cb,e= .returned (.tuple #[θ #[υ 1,υ 206,δ ob 8 cb],ι 0])/\SlI .u8 w' (δ ob 8 cb) (qy 0 4++qy d 4)/\qa w w'/\jX w (δ ob 8 cb):=by
 have ak:=κ (qs (qj w (.cells #[ι 1,ω 0,ω d,(),()] 246)) (.cells #[υ 0,υ 0,()] 254));have am:=κ (qC (w:=w.alloc (.cells #[ι 1,ω 0,ω d,(),()] 246)) (n:=w.heap.size+1) (o:=(.cells #[υ 0,υ 0,()] 254)) η);have ax:=κ aq;clear aq
 go_enter func238,ntmps238
 go_wp2_with (first | (go_at_call 253;(go_call An d _ as e aa ⟨rfl,U⟩;have I:=κ (qc U ak.o);have an:=κ (qc U am.o);have ao:=κ (((qa.alloc w (.cells #[ι 1,ω 0,ω d,(),()] 246)).al (.cells #[υ 0,υ 0,()] 254)).trans U);clear U;have af:=κ (wR aa);have ac:=κ (qa.alloc aa (.cells #[δ none 0 0] 131));have az:=β1 (qc ac.o I.o))) | (go_at_call 50;((with_reducible refine(uw af.o 0 ζ η).mono ?_);rintro e w4 ⟨rfl,M⟩;have ad:=κ (M.to_more af.o ac.o (Nat.le_refl _));obtain⟨⟨v4,av,_⟩,_⟩:=M;have ag:=κ av;clear av az;have aA:=β2 (qc ad.o I.o))) | (go_at_call 50;((with_reducible refine(uw ag.o d ax.o (by simp only[List.length_append,Hw,List.length_nil];omega)).mono ?_);rintro e w5 ⟨rfl,M⟩;have H:=κ (M.to_more ag.o ad.o (Nat.le_refl _));obtain⟨⟨v5,aw,_⟩,_⟩:=M;have ah:=κ aw;clear aw aA;have aN:=β3 (qc H.o I.o);have aO:=β4 (qc H.o I.o);have aM:=β0 (qc H.o I.o))))
 clear af ag ac ad ak am;have aE:Hid (w.heap.size+1<aa.heap.size):=κ (qn an.o);rw[List.nil_append] at ah;generalize aa.heap.size=W at *
 go_loopw [24] (λai wr=>ai= ι 0/\wr=w5) (λ_ _=>0)
 case atStart=>exact⟨rfl,rfl⟩
 case round=>
  obtain⟨rfl,rfl⟩:=hrel
  go_wp2_with (go_at_call 256;(go_call Ll _ as e w6 ⟨rfl,rfl⟩))
  go_loopw [40] (λai aL=>ai= ι 0/\aL=w6) (λ_ _=>0)
  case atStart=>exact⟨rfl,rfl⟩
  case round=>
   obtain⟨rfl,rfl⟩:=hrel
   go_wp2_with (first | (go_at_call 257;(go_call MF _ as e aW ⟨rfl,rfl⟩)) | (go_at_call 52;(go_call wZ ah.o (by rw[gA];decide) as e ab ⟨v51,rfl,Y,aj⟩;rw[gA] at Y;have ae:=κ Y;have ay:=κ aj;have G:=κ (qc aj (qc H.o an.o));obtain⟨N,J,rfl,-⟩:=GG Y;clear Y aj;have aP:=β0 G.o;have aQ:=β1 G.o;have aR:=β2 G.o;have aS:=qd G.o 0;have aT:=qd G.o 1;have aU:=qd G.o 2)))
   have O:=WC G.o (υ 1) (υ 206) (δ N 8 J);have ar:=(((ao.o.trans H.o).trans ay.o)).st3 (w.heap.size+1) τ (υ 1) (υ 206) (δ N 8 J);have a3:qg (λb=>b=w.heap.size+1) ab (((ab.setCell ⟨w.heap.size+1,0,none⟩ (υ 1)).setCell ⟨w.heap.size+1,1,none⟩ (υ 206)).setCell ⟨w.heap.size+1,2,none⟩ (δ N 8 J)):=
    (((qg.refl (λb=>b=w.heap.size+1) ab).set (p:=⟨w.heap.size+1,0,none⟩) rfl _).set (p:=⟨w.heap.size+1,1,none⟩) rfl _).set (p:=⟨w.heap.size+1,2,none⟩) rfl _
   have au:=XC ae.o a3 (λb aF e=>by have aB:=jG ae.o aF;have aC:=H.o.size;have aD:=aE.o;have aV:=qn ah.o.blk;omega);obtain⟨WF,ap⟩:=ν ((((ab.setCell ⟨w.heap.size+1,0,none⟩ (υ 1)).setCell ⟨w.heap.size+1,1,none⟩ (υ 206)).setCell ⟨w.heap.size+1,2,none⟩ (δ N 8 J)));rw[ap] at O ar au ⊢;clear ap a3;have aI:=β0 O;have aJ:=β1 O;have aK:=β2 O
   (refine bodyPost_ret (v:= .tuple #[θ #[υ 1,υ 206,δ N 8 J],ι 0]) ?rr1 rfl ?_;(case rr1=>(simp[results,results238,go_sem,aI,aJ,aK])))
   have aH:=SlI.of_owns (l:=qy 0 4++qy d 4) (by rw[gA];exact au) (by rw[gA];decide);exact⟨_,_,rfl,aH,ar,λg aG=>by have aB:=jG ae.o aG;have aC:=H.o.size;have aD:=ao.o.size;omega⟩
theorem FM (G:Int) (w:World):Calls prog 236 #[θ #[ι 2,false,ω 0,ω 0,ω 0,ω 0,ω 0,ω 0,(),ι 1,ω 0,ω G,(),(),υ 0,υ 0,()]] w λe w'=>e= .returned (μ true)/\qa w w':=by
 go_enter func236,ntmps236
 go_wp2_with (first | (go_at_call 252;(go_call Lm _ as e w1 ⟨rfl,m⟩;have H:=κ ((qa.alloc w _).trans m);have d:=κ (qc m (qj w _));obtain⟨⟨N,O,af,ag,ah,ai,aj,ak,al⟩,⟨am,U,Y,aa,ab⟩,ac,ad,ae⟩:=JC d.o;clear m)) | (go_at_call 250;(go_call Ln _ as e w2 ⟨rfl,m⟩;have I:=κ (H.o.trans m);have M:=κ (qc m d.o);obtain⟨⟨N,O,af,ag,ah,ai,aj,ak,al⟩,⟨am,U,Y,aa,ab⟩,ac,ad,ae⟩:=JC M.o;clear m)) | (go_at_call 253;(go_call An G _ as e an ⟨rfl,m⟩;have J:=κ (I.o.trans m);clear m)))
 go_ret;exact⟨rfl,J.o⟩
theorem CH (d:Int) (ai:0<=d/\d<=4294967295) (w:World):Calls prog 201 #[θ #[ι 2,false,ω 0,ω 0,ω 0,ω 0,ω 0,ω 0,(),ι 1,ω 0,ω d,(),(),υ 0,υ 0,()]] w λe w'=> ∃ob cb,e= .returned (.tuple #[θ #[υ 1,υ 206,δ ob 8 cb],ι 0])/\SlI .u8 w' (δ ob 8 cb) (qy 0 4++qy d 4)/\qa w w'/\jX w (δ ob 8 cb):=by
 obtain⟨W0,H⟩:=ν ((w.alloc (.cells #[ι 2,false,ω 0,ω 0,ω 0,ω 0,ω 0,ω 0,(),ι 1,ω 0,ω d,(),(),υ 0,υ 0,()] 256)).alloc (.cells #[υ 0,υ 0,()] 254));have ae:Hid (qa w W0):=κ (by rw[<-H];exact(qa.alloc _ _).al _);have Y:Hid (W0.heap[w.heap.size]? =some (.cells #[ι 2,false,ω 0,ω 0,ω 0,ω 0,ω 0,ω 0,(),ι 1,ω 0,ω d,(),(),υ 0,υ 0,()] 256)):=κ (by rw[<-H];exact qs (qj w _) _);have ad:Hid (W0.heap[w.heap.size+1]? =some (.cells #[υ 0,υ 0,()] 254)):=κ (by rw[<-H];exact qC η)
 go_enter func201,ntmps201
 go_upto_region 1 with fail
 (try rw[H])
 clear H;obtain⟨⟨aj,ak,av,aw,ax,ay,az,aA,aB⟩,⟨aC,am,an,ao,ap⟩,aq,ar,au⟩:=JC Y.o
 go_wp2_with (first | (go_at_call 236;(go_call FM d _ as e w1 ⟨rfl,m⟩;have O:=κ (ae.o.trans m);have ah:=κ (qc m Y.o);have N:=κ (qc m ad.o);obtain⟨⟨aj,ak,av,aw,ax,ay,az,aA,aB⟩,⟨aC,am,an,ao,ap⟩,aq,ar,au⟩:=JC ah.o;clear m)) | (go_at_call 238;(go_call Lk d ai _ as e w2 ⟨o2,c2,rfl,s2,M,n2⟩;have ag:=κ s2;have U:=κ n2;have af:=κ (O.o.trans M);have G:=κ (qc M N.o);have aG:=β0 G.o;have aH:=β1 G.o;have aI:=β2 G.o;have aJ:=qd G.o 0;have aK:=qd G.o 1;have aL:=qd G.o 2;clear s2 M n2)))
 have I:=WC G.o (υ 1) (υ 206) (δ o2 8 c2);have a3:qg (λb=>b=w.heap.size+1) w2 (((w2.setCell ⟨w.heap.size+1,0,none⟩ (υ 1)).setCell ⟨w.heap.size+1,1,none⟩ (υ 206)).setCell ⟨w.heap.size+1,2,none⟩ (δ o2 8 c2)):=(((qg.refl (λb=>b=w.heap.size+1) w2).set (p:=⟨w.heap.size+1,0,none⟩) rfl _).set (p:=⟨w.heap.size+1,1,none⟩) rfl _).set (p:=⟨w.heap.size+1,2,none⟩) rfl _;have ab:=qg.to_more af.o a3 (λb e=>by omega);have ac:=ag.o.off2 (λ_ b J (e:b=w.heap.size+1)=>by have:=U.o b J;have:=qn N.o;omega) a3;obtain⟨WF,aa⟩:=ν ((((w2.setCell ⟨w.heap.size+1,0,none⟩ (υ 1)).setCell ⟨w.heap.size+1,1,none⟩ (υ 206)).setCell ⟨w.heap.size+1,2,none⟩ (δ o2 8 c2)));rw[aa] at I ab ac ⊢;clear aa a3;have aD:=β0 I;have aE:=β1 I;have aF:=β2 I
 (refine bodyPost_ret (v:= .tuple #[θ #[υ 1,υ 206,δ o2 8 c2],ι 0]) ?rr2 rfl ?_;(case rr2=>(simp[results,results201,go_sem,aD,aE,aF])))
 exact⟨_,_,rfl,ac,ab,λb J=>Nat.le_trans O.o.size (U.o b J)⟩
theorem WN (n s:Int):Byt (qy n s):=by
 unfold qy;split
 ·exact JF _ _
 ·exact xh
theorem Ex (d:Int):xk (Zb d):=⟨⟨by show (0:Int)<=1;decide,by show (1:Int)<=255;decide⟩,⟨by show (0:Int)<=206;decide,by show (206:Int)<=255;decide⟩,zZ (WN 0 4) (WN d 4)⟩
theorem FN (d:Int) (av:0<=d/\d<=4294967295) (b cap:Nat) (w:World) (aK:b<w.heap.size) (ag:w.rangeAt b 0 [ι 2,false,ω 0,ω 0,ω 0,ω 0,ω 0,ω 0,(),ι 1,ω 0,ω d,(),(),υ 0,υ 0,()]):Calls prog 158 #[δ (some ⟨b,0,none⟩) 1 cap] w λe w'=> ∃vx,e= .returned (.tuple #[vx,ι 0])/\SlP 3 yH w' vx [Zb d]/\qa w w':=by
 obtain⟨aB,hi,aw,ax,ay⟩:=info_parts (P:=prog) (e:=254) (z:= θ #[υ 0,υ 0,()]) (size:=3) (bytes:=32) ξ;obtain⟨aC,aD,aE,aF,aG⟩:=info_parts (P:=prog) (e:=29) (z:= ι 0) (size:=1) (bytes:=8) ξ;have am:=κ ag;have an:Hid (ChJ w w (δ none 0 0) (δ none 0 0) [] []):=κ ⟨je.nil _ _ _ _ _ _,World.ownsRow_nil _ _ _ _,qa.refl _⟩;clear ag
 go_enter func158,ntmps158
 go_wp2
 go_loopw [4,5,12] (λu v H wr=>(H= ι 0/\u= δ none 0 0/\v= δ none 0 0/\wr=w)∨(H= ι 1/\ ∃ac Y M ad aa N,u= δ ac Y M/\v= δ ad aa N/\ChJ w wr (δ ac Y M) (δ ad aa N) [Zb d] [0])) (λ_ _ H _=>1-(intOf H).toNat)
 case atStart=>exact Or.inl ⟨rfl,rfl,rfl,rfl⟩
 case round=>
  rcases hrel with ⟨rfl,rfl,rfl,rfl⟩ | ⟨rfl,ac,Y,M,ad,aa,N,rfl,rfl,af⟩
  ·go_wp2_with (first | (refine wpList_load_mid rfl 256 (.tmp 14) rfl b 0 rfl [ι 2,false,ω 0,ω 0,ω 0,ω 0,ω 0,ω 0,(),ι 1,ω 0,ω d,(),(),υ 0,υ 0,()] _ am.o underlying256 rfl ξ ?_) | (refine jU rfl 256 (.tmp 7) (.tmp 15) rfl wr _ #[ι 2,false,ω 0,ω 0,ω 0,ω 0,ω 0,ω 0,(),ι 1,ω 0,ω d,(),(),υ 0,υ 0,()] rfl rfl rfl ξ rfl rfl ?_) | (refine wpList_load_row rfl 256 (.tmp 7) rfl wr.heap.size rfl _ #[ι 2,false,ω 0,ω 0,ω 0,ω 0,ω 0,ω 0,(),ι 1,ω 0,ω d,(),(),υ 0,υ 0,()] _ _ (heap_alloc_new wr _) underlying256 rfl ξ ?_) | (go_at_call 201;(go_call CH d av _ as e w1 ⟨ab,ae,rfl,s1,ak,aH⟩;have aq:=κ s1;have ap:=κ ((qa.alloc wr (.cells #[ι 2,false,ω 0,ω 0,ω 0,ω 0,ω 0,ω 0,(),ι 1,ω 0,ω d,(),(),υ 0,υ 0,()] 256)).trans ak);have G:=κ ((an.o.on ap.o).on ((qa.alloc w1 (.cells #[υ 1,υ 206,δ ab 8 ae] 254)).al (.cells #[υ 1,υ 206,δ ab 8 ae] 254)));clear s1 ak aH)) | (at_builtin;refine jN _ rfl (.tmp 21) (.tmp 23) 302 rfl wr.heap.size 254 aB (θ #[υ 0,υ 0,()]) 3 32 underlying302 hi aw ax ay rfl ζ _ [] rfl G.o.row (w1.heap.size+1) [υ 1,υ 206,δ ab 8 ae] (Zb d) rfl rfl (zS η) (by simp[Value.oneCell']) ((Dd (c:=Zb d) aq.o (Ex d) (λ_ g _ h=>by rcases h with h | h<;>cases h)).on ((qa.alloc _ _).al _)) (λb h=>gB G.o.errs h) ζ ζ G.o.more.size ?_;intro v8 w8 O ah au;have J:=κ (G.o.put O ah);obtain⟨aM,aL,aI,rfl,az,aA⟩:=O.shape;clear O ah au az aA) | (at_builtin;refine qU _ rfl (.tmp 25) (.tmp 27) 356 rfl wr.heap.size 29 aC (ι 0) 8 underlying356 aD aE aF aG rfl _ .i64 [] rfl (J.o.on (qa.alloc _ _)).errs _ [0] rfl (SlI.lit .i64 w8 [0] 29 _ 1 _ rfl rfl rfl η) η ζ (by have:=J.o.more.size;simp;omega) ?_;intro v9 w9 U ai aj;have ao:=κ ((J.o.on (qa.alloc _ _)).err (E':=[0]) U ai aj);obtain⟨aN,aJ,ar⟩:=xl U;subst ar;clear U ai aj))
   go_roundw
   case rel=>exact Or.inr ⟨by go_num,_,_,_,_,_,_,rfl,rfl,ao.o⟩
   case measure=>simp[intOf]
  ·have I:=κ af;clear af
   go_wp2_with (go_at_call 202;(go_call gh [0] _ _ (SlI.of_owns I.o.errs ζ) as e aO ⟨rfl,rfl⟩))
   go_ret2
   exact⟨_,rfl,I.o.row.sl ζ,I.o.more⟩
theorem Vs (d:Int):[Zb d].length<=100000/\ ∀i,i<[Zb d].length->([Zb d].getD i xu).2.2.1.length<=1000000:=by
 refine⟨η,λi hi=> ?_⟩;obtain rfl:i=0:=by simpa using hi
 show (qy 0 4++qy d 4).length<=1000000;rw[gA]
 decide
theorem FL (d:Int) (ab:0<=d/\d<=4294967295) {b t:Nat} (cap:Nat) (w:World) (H:w.heap[b]? =some (.cells #[ι 2,false,ω 0,ω 0,ω 0,ω 0,ω 0,ω 0,(),ι 1,ω 0,ω d,(),(),υ 0,υ 0,()] t (0,0))):Calls prog 124 #[δ (some ⟨b,0,none⟩) 1 cap] w λe w'=> ∃G er,e= .returned (.tuple #[G,ι er])/\SlI .u8 w' G (ug d)/\qa w w'/\ ∀g,G.ownBlock=some g->w.heap.size<=g:=by
 have N:=κ (FN d ab b cap w (qn H) (λj v ac=>by rw[Nat.zero_add];exact qb H j (by simpa using ac)));clear H
 go_enter func124,ntmps124
 go_wp2_with (first | (go_at_call 158;(go_call N.o as e w1 ⟨G,rfl,s1,J⟩;have Y:=κ s1;have I:=κ J;clear s1 J)) | (go_at_call 159;(go_call Dy G [Zb d] _ Y.o (Vs d).1 (Vs d).2 as e w2 ⟨ad,rfl,s2,M,n2⟩;have aa:=κ s2;have O:=κ (I.o.trans M);have U:=κ (λ(b:Nat) (hb:ad.ownBlock=some b)=>Nat.le_trans I.o.size (n2 b hb));clear s2 M n2)))
 go_ret2
 exact⟨_,_,rfl,aa.o,O.o,U.o⟩
end
section
variable {T:Nat->Tg} {w0 w w':World} {k:RmK} {vp vr:Value} {s:RmS} {F:List Nat}
theorem CF (bj:qI w0 w k s F) (G o2:Int) (aK: ∀o v,qh s.tab.s o=some v->0<=v/\v<=4294967295) (bA:s.reqs.length<=1000000):
  Calls prog 80 #[γ k.R,θ #[ι G,ι o2]] w λe w'=>e= .returned (.tuple #[])/\qI w0 w' k (s.request (G,o2)) F/\qw F w w':=by
 obtain⟨T,vp,bC,h⟩:=bj;obtain⟨W1,ae⟩:=ν (w.alloc (.cells #[ι G,ι o2] 50));have ap:Hid (qa w W1):=κ (by rw[<-ae];exact qa.alloc _ _);have aw:Hid (W1.heap[w.heap.size]? =some (.cells #[ι G,ι o2] 50 (0,0))):=κ (by rw[<-ae];exact qj w _);have aa:=κ (h.on ap.o);have bh:=κ (h.at.stay ap.o);have ay:=κ h.fresh;obtain⟨d,ag⟩:=ν ((qh s.tab.s (G,o2)).getD 0)
 have bd:Hid (0<=d/\d<=4294967295):=κ (by
  rw[<-ag];cases hm:qh s.tab.s (G,o2) with
  | none=>exact⟨ζ,ζ⟩
  | some v=>exact aK _ v hm)
 have bc:Hid (s.request (G,o2)={s with reqs:=s.reqs++[⟨(G,o2),s.clock,ug d⟩]}):=κ (by unfold RmS.request;rw[ag]);have az:=κ (CC (aa.o.tab.more (qa.drewN W1 1)) (G,o2));rw[ag] at az;clear ag aK h;have aY:=λ(x:qt W1)=>β11 (qc x.h aa.o.blk)
 have am:=λ(x:qt W1)=>qc x.h aw.o
 have ai:=λx=>β0 (am x);have aj:=λx=>β1 (am x);clear am
 go_enter func80,ntmps80
 go_upto_region 1 with fail
 (try rw[ae])
 clear ae;refine Qn W1 11 11 [5] ?_
 refine Qq5 ?_
 (refine Ql ?_;intro K H)
 (with_reducible refine az.o.mono ?_)
 rintro e w2 ⟨rfl,aM⟩;have ad:Hid (qa W1 w2):=κ ((qa.drewN W1 1).trans aM);clear aM;refine⟨_,rfl,qk ad.o,H _ _ ?_⟩;clear H K
 iterate 5 (refine qE rfl rfl (qk ad.o) ?_;intro K H;go_big_quiet_op;go_big_quiet_on)
 refine qA ?_;clear aY ai aj;obtain⟨ar,af⟩:=ν ((w2.alloc (.cells #[ι 1,ω 0,ω d,(),()] 246)).alloc (.cells #[ι 2,false,ω 0,ω 0,ω 0,ω 0,ω 0,ω 0,(),ι 1,ω 0,ω d,(),(),υ 0,υ 0,()] 256));have aC:Hid (qa w2 ar):=κ (by rw[<-af];exact(qa.alloc _ _).al _);have bg:Hid (ar.heap[w2.heap.size+1]? =some (.cells #[ι 2,false,ω 0,ω 0,ω 0,ω 0,ω 0,ω 0,(),ι 1,ω 0,ω d,(),(),υ 0,υ 0,()] 256 (0,0))):=κ (by rw[<-af];exact qC η);have aB:=κ (FL d bd.o 1 ar bg.o)
 go_upto_region 4 with (first | (refine jU rfl 246 (.tmp 6) (.tmp 19) rfl w2 _ #[ι 1,ω 0,ω d,(),()] rfl rfl rfl ξ rfl rfl ?_) | (refine wpList_load_row rfl 246 (.tmp 6) rfl w2.heap.size rfl _ #[ι 1,ω 0,ω d,(),()] _ _ (heap_alloc_new w2 _) underlying246 rfl ξ ?_) | ((try rw[af]);(go_at_call 124;(go_call aB.o as e w5 ⟨bD,bu,rfl,av,aN,aO⟩;have aD:=κ av;have be:Hid (qa w2 w5):=κ (aC.o.trans aN);have bf:=κ (λb I=>Nat.le_trans aC.o.size (aO b I));obtain⟨Y,U,rfl,_⟩:=id av;clear av aN aO))))
 clear af aB;have aq:Hid (qa W1 w5):=κ (ad.o.trans be.o);have aV:=aa.o.on aq.o;have bi:=κ (bh.o.trans (aa.o.at.stay aq.o));have bB:=aa.o.more.size
 obtain⟨J,aW,aF,aG⟩:=aV.data (λb=>ug d≠[]/\(δ Y (ug d).length U).ownBlock=some b) (λb I=>by
  have bw:=bf.o b I.2;have bx:=ad.o.size;have bz:=ap.o.size
  exact⟨ay.o b τ,τ,aD.o.old I.1 I.2,λhF=>by have:=(aa.o.law b hF).2.2;omega⟩)
 have O:=κ aW;have aA:=κ aF;clear aW aF aV;have aX:=κ (qc aq.o aw.o);obtain⟨N,_,M,rfl,rfl,_⟩:=(O.o.all .reqs).1.shape;obtain⟨_,aL⟩:=O.o.all .reqs;have ak:=κ aL;clear aL;have aQ: ¬(δ N s.reqs.length M).ownBlock=some k.R:=λe=>by have:=ak.o _ e;rw[(O.o.all .room).1] at this;cases this
 have aJ:J w.heap.size= .no∨J w.heap.size= .data:=by
  by_cases e:ug d≠[]/\(δ Y (ug d).length U).ownBlock=some w.heap.size
  ·exact Or.inr (aA.o _ e)
  ·exact Or.inl (by rw[aG _ e];exact ay.o _ (Nat.le_refl _))
 have bs: ¬(δ N s.reqs.length M).ownBlock=some w.heap.size:=λe=>by have:=ak.o _ e;rcases aJ with q | q<;>rw[q] at this<;>cases this
 clear aJ aG;have an:=λ(x:qz (λb=>(δ N s.reqs.length M).ownBlock=some b) w5)=>x.h.blk O.o.blk aQ
 have aZ:=λx=>β15 (an x);have ba:=λx=>β9 (an x);clear an
 have ao:=λ(x:qz (λb=>(δ N s.reqs.length M).ownBlock=some b) w5)=>x.h.blk aX.o bs
 have ai:=λx=>β0 (ao x);have aj:=λx=>β1 (ao x);clear ao
 obtain⟨br,hi,bo,bp,bq⟩:=info_parts (P:=prog) (e:=105) (z:= θ #[ι 0,ι 0,ι 0,()]) (size:=4) (bytes:=48) ξ;refine QN (λb=>(δ N s.reqs.length M).ownBlock=some b) w5 16 17 [12,13,14,16] ?_
 refine Nz ?_
 clear aZ ba ai aj
 (refine Ql ?_;intro K H)
 refine⟨qi (((qg.refl _ w5).drewN 1).alc _),H _ _ ?_⟩;clear H K;have bn: ∀g,(δ N s.reqs.length M).ownBlock=some g->J g= .reqs:=ak.o;have aT:=(((O.o.all .reqs).1.on (qa.drewN w5 1)).on (qa.alloc _ (.cells #[ι G,ι o2,ι s.clock,δ Y (ug d).length U] 105))).other (D':=λb=>(J b≠ .data/\J b≠ .reqs)/\b<w5.heap.size) (λb I=>Or.inl I.1);have aU:=(aD.o.keep (qa.drewN w5 1)).keep (qa.alloc _ (.cells #[ι G,ι o2,ι s.clock,δ Y (ug d).length U] 105));have aS:jw RRq (λb=>((J b≠ .data/\J b≠ .reqs)/\b<w5.heap.size)∨(δ N s.reqs.length M).ownBlock=some b) ((w5.drewN 1).alloc (.cells #[ι G,ι o2,ι s.clock,δ Y (ug d).length U] 105)) [ι G,ι o2,ι s.clock,δ Y (ug d).length U] ⟨(G,o2),s.clock,ug d⟩:=λw' a=>
  ⟨_,rfl,aU.off2 (λbm b I ac=>by
   have e:=aA.o b ⟨bm,I⟩;rcases ac with ac | ac
   ·exact ac.1.1 e
   ·rw[bn b ac] at e;cases e) a⟩
 refine jR rfl rfl ?_;intro K H
 refine zK (.tmp 31) (.tmp 39) 86 rfl 0 105 br (θ #[ι 0,ι 0,ι 0,()]) 4 48 underlying86 hi bo bp bq rfl ζ _ s.reqs rfl aT w5.heap.size [ι G,ι o2,ι s.clock,δ Y (ug d).length U] ⟨(G,o2),s.clock,ug d⟩ rfl rfl (kX rfl) (by simp[Value.oneCell']) aS (λb I=>by
  have:=I.2;have:=(((qa.drewN w5 1)).al (.cells #[ι G,ι o2,ι s.clock,δ Y (ug d).length U] 105)).size
  omega) ζ τ (Nat.zero_le _) ?_
 intro v6 w6 au aI aH;have ab:Hid (qg (λb=>(δ N s.reqs.length M).ownBlock=some b) w5 w6):=κ ((((qg.refl _ w5).drewN 1).alc _).trans (qg.of_grown aI));obtain⟨aR,aP,aE,rfl,bk,bl⟩:=au.shape;have ah:=κ (ab.o.blk O.o.blk aQ);have bb:(J k.R≠ .data/\J k.R≠ .reqs)/\k.R<w5.heap.size:=⟨by rw[(O.o.all .room).1];exact⟨η,η⟩,O.o.lt⟩;have ax:=κ (O.o.reqsPut (y:=⟨(G,o2),s.clock,ug d⟩) ((ab.o.mono (S':=λb=>(δ N s.reqs.length M).ownBlock=some b∨b=k.R) (λb I=>Or.inl I)).set (p:=⟨k.R,15,none⟩) (Or.inr rfl) (δ aR aP aE)) (((qa.drewN w5 1)).al (.cells #[ι G,ι o2,ι s.clock,δ Y (ug d).length U] 105)).size (au.step (qg.set (S:=λb=>(J b≠ .data/\J b≠ .reqs)/\b<w5.heap.size) (qg.refl _ _) (p:=⟨k.R,15,none⟩) bb (δ aR aP aE))) aH (qB (qp ah.o 15 _) rfl));have bt:w6.cell? ⟨k.R,15,none⟩=some (δ N s.reqs.length M):=qb ah.o 15 rfl;have bv:w6.frozen? ⟨k.R,15,none⟩=false:=qd ah.o 15;clear au aI aH aT aS aU bk bl;refine⟨qi ab.o,H _ _ ?_⟩;clear H K;go_simp
 (refine Ql ?_;intro K H)
 refine⟨qi ab.o,H _ _ ?_⟩;clear H K
 iterate 1 (refine qE rfl rfl (qi ab.o) ?_;intro K H;go_big_quiet_op;go_big_quiet_on)
 (refine Qe ?_;intro K H)
 refine H _ _ ?_;clear H K;refine qA ?_;go_wp2
 (refine bodyPost_end (v:= .tuple #[]) ?re1 rfl ?_;(case re1=>simp[results,results80,go_sem]))
 exact⟨rfl,by rw[bc.o];exact ax.o.1,bi.o.trans ax.o.2⟩
end
end Go.Proofs.YtdgippmmaponfaaGreat
