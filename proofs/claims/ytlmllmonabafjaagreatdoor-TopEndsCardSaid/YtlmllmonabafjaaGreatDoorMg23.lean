/- Contracts of the functions that the law reaches, and plain laws; no conditions but those written at each. -/
import Derived.Test.YtlmllmonabafjaaGreatDoorMg22
namespace Go.Proofs.YtlmllmonabafjaaGreatDoor
open Go.Value renaming bool->μ,slice->δ,pointer->π,agg->θ
open Go.IntKind renaming i64->ι,u8->υ,u16->φ,u32->ω,i32->χ,u64->ψ
open _root_.Go.Proofs.Tryz
set_option linter.unusedSimpArgs false
set_option maxHeartbeats 8000000
set_option linter.unusedVariables false
open Go.RowKit
set_option maxRecDepth 100000
section
variable {T:Nat->Tg} {w0 w w':World} {k:RmK} {vp vr:Value} {s:RmS} {F:List Nat}
theorem Ho (H:qI w0 w k s F):Calls prog 28 #[γ k.R] w λe w'=>e= .returned (ι s.shut.2)/\qI w0 w' k s.shut.1 F/\qw F w w':=by
 have J:=κ H;obtain⟨vp,ab,d⟩:=H.blk;have U:=β7 d;have aa:=qd d 7;obtain⟨Y,I⟩:=ν (s.closed);rw[I] at U;have O:=κ I;clear I H d;cases Y with
 | true=>
  have G:Hid (s.shut=(s,7)):=κ (by unfold RmS.shut;rw[if_pos O.o]);rw[G.o]
  go_enter func28,ntmps28
  go_wp2;go_ret;exact⟨rfl,J.o,qw.refl _ _⟩
 | false=>
  have G:Hid (s.shut=({s with closed:=true},0)):=κ (by unfold RmS.shut;rw[if_neg (by rw[O.o];decide)]);have N:=κ (J.o.cell 7 (μ true) (s':={s with closed:=true}) (λ_ _=>rfl) ⟨rfl,rfl,rfl,rfl,rfl,rfl,rfl,rfl,rfl⟩);rw[G.o]
  go_enter func28,ntmps28
  go_wp2;go_ret;exact⟨rfl,N.o.1,N.o.2⟩
theorem CK {B b:Nat} {m:Bk} (h:jy w B b m) (sub:Int) (J:m.length<=1000000):
  Calls prog 25 #[θ #[γ B],ι sub] w λe w'=>(∃v,e= .returned v/\SlI .i64 w' v (jz m sub))/\qa w w':=by
 have G:=κ (Yc (h.more (qa.alloc w (.cells #[γ B] 86))) sub J);clear h
 go_enter func25,ntmps25
 go_wp2_with (go_at_call 70;(go_call G.o as e w1 ⟨⟨v,rfl,s1,_⟩,d⟩;have I:=κ s1;have H:=κ d;clear s1 d))
 go_ret;exact⟨⟨_,rfl,I.o⟩,(qa.alloc _ _).trans H.o⟩
theorem RmX.laneDel (h:RmX T w0 w k vp vr s F) {x:Int} (m:jk w' k.ML (Value.int .i64) gj (yK k.LA x)) (a:qg (λb=>b=k.ML) w w'):
  qI w0 w' {k with LA:=yK k.LA x} {s with lanes:=Yh s.lanes x} F/\qw F w w':=by
 obtain⟨d,J⟩:=h.all .lns;have I:=J.keys;have H:=h.fresh;obtain⟨y,z⟩:=h.own (t:= .lns) (k':={k with LA:=yK k.LA x}) (vp':=vp) (vr':=vr) (s':={s with lanes:=Yh s.lanes x}) ⟨η,η⟩ (a.mono λb G=>by rw[G];exact d) ⟨(jd H η _).2 (Or.inl d),m⟩
  (λu N U y=>by
   cases u<;>first | exact y | exact absurd rfl N | skip
   rename_i O;unfold RmK.Holds at y ⊢;simp only;rw[gD I,uR];by_cases e:O=x
   ·rw[if_pos e,if_pos e];exact⟨λp l c=>(by cases c),rfl⟩
   ·rw[if_neg e,if_neg e]
    exact y)
 exact⟨y.at,z⟩
theorem KK {t:TS} (h:RmX T w0 w k vp vr s F) (b:jq w' k.tb k.ta k.tc k.td t) (a:qg (λx=>x=k.td) w w'):qI w0 w' k {s with tab:=t} F/\qw F w w':=
 h.table b (a.mono λ_ e=>Or.inr (Or.inr e))
theorem Lh (ar:qI w0 w k s F) (aj:s.book.length<=900000) (x:Int):
  Calls prog 47 #[γ k.R,ι x] w λe w'=> ∃k',k'.R=k.R/\e= .returned (ι (s.leave x).2)/\qI w0 w' k' (s.leave x).1 F/\qw F w w':=by
 obtain⟨T,vp,aB,aa⟩:=ar;have Y:=κ aa;have ap:=β7 aa.blk;have ay:=β11 aa.blk;obtain⟨aq,ae⟩:=ν (s.closed);rw[ae] at ap;have ab:=κ ae;have an:=κ aj;clear ae aa aj;cases aq with
 | true=>
  have H:Hid (s.leave x=(s,7)):=κ (by unfold RmS.leave;rw[if_pos ab.o]);rw[H.o]
  go_enter func47,ntmps47
  go_wp2;go_ret;exact⟨k,rfl,rfl,Y.o.at,qw.refl _ _⟩
 | false=>
  have U:=κ (FC Y.o.tab x);obtain⟨ac,d⟩:=ν ((zW s.tab x).2);obtain⟨am,N⟩:=ν ((zW s.tab x).1);rw[d,N] at U;by_cases e0:ac=0
  ·subst e0;have H:Hid (s.leave x=({s with tab:=am,book:=vM s.book x 7,lanes:=Yh s.lanes x},0)):=κ (by unfold RmS.leave;rw[if_neg (by rw[ab.o];decide),if_pos d,N]);rw[H.o];clear d N
   go_enter func47,ntmps47
   go_wp2_with (first | (go_at_call 106;(go_call U.o as e w1 ⟨rfl,J,I⟩;have G:=κ (KK Y.o J I);obtain⟨_,_,af⟩:=G.o.1.blk;have ax:=β0 af;clear J I af)) | (go_at_call 107;(go_call LJ G.o.1 x (by have:=an.o;show s.book.length<=1000000;omega) as e w2 ⟨⟨v2,rfl⟩,ad,t2,_⟩;obtain⟨ah,aA,aC,O⟩:=ad;have av:=κ O;have ah:=κ t2;have az:=β12 O.blk;obtain⟨w9,al,ak,ai,_⟩:=O.lnm.drop kE underlying90 x 0;have al: ∀ty,(Builtin.delete_ #[90,3] ty #[.map (some k.ML),ι x]).run prog w2= .ok (.tuple #[]) w9:=λ_=>al;have ag:=κ (O.laneDel ak ai);clear ak ai O t2)))
   go_ret;exact⟨{k with LA:=yK k.LA x},rfl,rfl,ag.o.1,G.o.2.trans (ah.o.trans ag.o.2)⟩
  ·have aw:(ac != 0)=true:=by simp[e0]
   have H:Hid (s.leave x=(s,ac)):=κ (by unfold RmS.leave;rw[if_neg (by rw[ab.o];decide),d,if_neg e0])
   have ao:Hid (am=s.tab):=κ (by
    rw[<-N];unfold zW at d ⊢;split
    ·rename_i au;rw[if_pos au] at d;split
     ·rename_i ad;rw[if_pos ad] at d;exact absurd d.symm e0
     ·rfl
    ·rfl)
   rw[ao.o] at U;rw[H.o];clear d N e0
   go_enter func47,ntmps47
   go_wp2_with (go_at_call 106;(go_call U.o as e w1 ⟨rfl,J,I⟩;have G:=κ (KK Y.o J I);clear J I))
   go_ret;exact⟨k,rfl,rfl,G.o.1,G.o.2⟩
end
section
variable {T:Nat->Tg} {w0 w w':World} {k:RmK} {vp vr:Value} {s:RmS} {F:List Nat}
theorem Ak (h:RmX T w0 w k vp vr s F) {x:Int} {l:LnS} {p:Nat} (d:qh s.lanes x=some l) (G:qh k.LA x=some p) (n:Int):
  Calls prog 91 #[γ p,ι n] w λe w'=>e= .returned (ι (jO l n).2)/\qI w0 w' k {s with lanes:=qx s.lanes x (jO l n).1} F/\qw F w w':=by
 obtain⟨p2,H,I⟩:=h.laneAt d;obtain rfl:p2=p:=by rw[G] at H;injection H with e;exact e.symm
 refine(Ed I n).mono ?_;rintro e w' ⟨rfl,b,a⟩;exact⟨rfl,h.lanePut d G b a⟩
theorem Ms (au:qI w0 w k s F) (aj:zc s) (x n:Int):
  Calls prog 36 #[γ k.R,ι x,ι n] w λe w'=>e= .returned (ι (s.want x n).2)/\qI w0 w' k (s.want x n).1 F/\qw F w w':=by
 obtain⟨T,vp,aB,ab⟩:=au;have d:=κ ab;have am:=κ aj;have aq:=β7 ab.blk;have ax:=β11 ab.blk;obtain⟨ar,ac⟩:=ν (s.closed);rw[ac] at aq;have ag:=κ ac;clear ac ab aj;cases ar with
 | true=>
  have G:Hid (s.want x n=(s,7)):=κ (by unfold RmS.want;rw[if_pos ag.o]);rw[G.o]
  go_enter func36,ntmps36
  go_wp2;go_ret;exact⟨rfl,d.o.at,qw.refl _ _⟩
 | false=>
  have I:Hid (s.want x n=if (decide (0<=x/\x<6)&&jj n)=false then (s,1) else if ((qh s.tab.u x).getD sb0).2.1=false then (s,5) else (match qh s.lanes x with
   | none=>(s,0)
   | some l=>({s with lanes:=qx s.lanes x (jO l n).1},(jO l n).2))):=κ (by unfold RmS.want;rw[if_neg (by rw[ag.o];decide)];rfl)
  obtain⟨aw,af⟩:=ν (jj n);have Y:=κ (λw=>Ub n w);rw[af] at Y I;by_cases h1:x<0
  ·have G:Hid (s.want x n=(s,1)):=κ (by rw[I.o,decide_eq_false τ,if_pos (by rfl)]);rw[G.o]
   go_enter func36,ntmps36
   go_wp2;go_ret;exact⟨rfl,d.o.at,qw.refl _ _⟩
  ·by_cases h2:x<6
   ·cases aw with
    | false=>
     have G:Hid (s.want x n=(s,1)):=κ (by rw[I.o,Bool.and_false,if_pos rfl]);rw[G.o];clear af
     go_enter func36,ntmps36
     go_wp2_with (go_at_call 89;(go_call Y.o _ as e w1 ⟨rfl,N⟩;obtain rfl:=N))
     go_ret;exact⟨rfl,d.o.at,qw.refl _ _⟩
    | true=>
     have O:Hid (s.want x n=if ((qh s.tab.u x).getD sb0).2.1=false then (s,5) else (match qh s.lanes x with
      | none=>(s,0)
      | some l=>({s with lanes:=qx s.lanes x (jO l n).1},(jO l n).2))):=κ (by rw[I.o,decide_eq_true τ,if_neg ζ])
     have U:=κ (LH d.o.tab x);obtain⟨av,ae⟩:=ν ((qh s.tab.u x).getD sb0);rw[ae] at U O;have an:=κ ae;clear af ae I;obtain⟨s1,s2,aA⟩:=av;simp only at U O;cases s2 with
     | false=>
      have G:Hid (s.want x n=(s,5)):=κ (by rw[O.o,if_pos rfl]);rw[G.o]
      go_enter func36,ntmps36
      go_wp2_with (first | (go_at_call 89;(go_call Y.o _ as e w1 ⟨rfl,N⟩;obtain rfl:=N)) | (go_at_call 90;(go_call U.o as e w2 ⟨rfl,H⟩;have J:=κ H;clear H)))
      go_ret;exact⟨rfl,d.o.at.on J.o,d.o.at.stay J.o⟩
     | true=>
      have ai:(qh s.lanes x).isSome=true:=by
       rw[<-am.o.lane];have:=an.o;cases hu:qh s.tab.u x with
       | none=>rw[hu] at this;simp only[Option.getD_none] at this;unfold sb0 at this;injection this with _ q;injection q with q _;(try cases q)
       | some y=>rfl
      obtain⟨l,aa⟩:=Option.isSome_iff_exists.1 ai;obtain⟨p,ad,_⟩:=d.o.laneAt aa;have G:Hid (s.want x n=({s with lanes:=qx s.lanes x (jO l n).1},(jO l n).2)):=κ (by rw[O.o,if_neg ζ,aa]);have ao:=κ (λw' (m:qa w w')=>Ak (d.o.on m) aa ad n)
      have al:Hid (∀w',qa w w'->(Instr.lookup 90 (.map (some k.ML)) (ι x) false).run prog w'= .ok (γ p) w'):=κ (λw' m=>by
       have:=xq (d.o.lnm.more m) x false;rw[ad] at this
       exact this)
      rw[G.o];clear ai aa ad
      go_enter func36,ntmps36
      go_wp2_with (first | (go_at_call 89;(go_call Y.o _ as e w1 ⟨rfl,N⟩;obtain rfl:=N)) | (go_at_call 90;(go_call U.o as e w2 ⟨rfl,H⟩;have J:=κ H;have ay:=β12 (qc H d.o.blk);have az:=al.o _ H;clear H)) | (go_at_call 91;(go_call ao.o _ J.o as e aC ⟨rfl,ah,t3⟩;have ak:=κ ah;have ap:=κ t3;clear ah t3)))
      go_ret;exact⟨rfl,ak.o,(d.o.at.stay J.o).trans ap.o⟩
   ·have G:Hid (s.want x n=(s,1)):=κ (by rw[I.o,decide_eq_false τ,if_pos (by rfl)]);rw[G.o]
    go_enter func36,ntmps36
    go_wp2;go_ret;exact⟨rfl,d.o.at,qw.refl _ _⟩
theorem Vr {t:TS} {x p:Int} (h: ¬(vL t x p).2=0):(vL t x p).1=t:=by
 unfold vL at h ⊢
 repeat' split
 all_goals first | rfl | skip
 rename_i d G H;rw[if_pos d,if_pos G,if_neg H] at h;exact absurd rfl h
theorem GC {t:TS} {x p:Int} (h:qh t.u x=none): ¬(vL t x p).2=0:=by
 unfold vL;rw[h];split<;>simp
theorem XM (aJ:qI w0 w k s F) (ax:zc s) (x p n:Int):
  Calls prog 46 #[γ k.R,ι x,ι p,ι n] w λe w'=>e= .returned (ι (s.subscribe x p n).2)/\qI w0 w' k (s.subscribe x p n).1 F/\qw F w w':=by
 obtain⟨T,vp,aQ,ao⟩:=aJ;have d:=κ ao;have aD:=κ ax;have aH:=β7 ao.blk;obtain⟨aI,an⟩:=ν (s.closed);rw[an] at aH;have ae:=κ an;clear an ao ax;cases aI with
 | true=>
  have G:Hid (s.subscribe x p n=(s,7)):=κ (by unfold RmS.subscribe;rw[if_pos ae.o]);rw[G.o]
  go_enter func46,ntmps46
  go_wp2;go_ret;exact⟨rfl,d.o.at,qw.refl _ _⟩
 | false=>
  obtain⟨aL,J⟩:=ν (jj n);have aa:=κ (λw=>Ub n w);rw[J] at aa;cases aL with
  | false=>
   have G:Hid (s.subscribe x p n=(s,1)):=κ (by unfold RmS.subscribe;rw[if_neg (by rw[ae.o];decide),if_pos J]);rw[G.o];clear J
   go_enter func46,ntmps46
   go_wp2_with (go_at_call 89;(go_call aa.o _ as e w1 ⟨rfl,O⟩;obtain rfl:=O))
   go_ret;exact⟨rfl,d.o.at,qw.refl _ _⟩
  | true=>
   have aO:=β12 d.o.blk;have q:_:=xq d.o.lnm x true;simp only[if_true] at q;obtain⟨Y,H⟩:=ν ((vL s.tab x p).2);obtain⟨ay,ac⟩:=ν ((vL s.tab x p).1);cases hl:qh s.lanes x with
   | none=>
    have aw:=d.o.laneNo hl;rw[aw] at q
    replace q:(Instr.lookup 90 (.map (some k.ML)) (ι x) true).run prog w= .ok (.tuple #[π none,false]) w:=q
    have am:qh s.tab.u x=none:=by
     have:=aD.o.lane x;rw[hl] at this;cases am:qh s.tab.u x with
     | none=>rfl
     | some y=>rw[am] at this;cases this
    have al:=GC (p:=p) am;have ah:=Vr al
    have G:Hid (s.subscribe x p n=(s,Y)):=κ (by
     unfold RmS.subscribe JV
     rw[if_neg (by rw[ae.o];decide),if_neg (by rw[J];decide),hl,if_neg ζ,if_neg al,H])
    have U:=κ (Jf d.o.tab x p);rw[ah,H] at U;have aG:(Y != 0)=true:=by rw[<-H];simp[al]
    have au:=β11 d.o.blk;rw[G.o];clear J hl aw am al ah H ac
    go_enter func46,ntmps46
    go_wp2_with (first | (go_at_call 89;(go_call aa.o _ as e w1 ⟨rfl,O⟩;obtain rfl:=O)) | (go_at_call 105;(go_call U.o as e w2 ⟨rfl,ar,aq⟩;have ap:=κ (KK d.o ar aq);clear ar aq)))
    go_ret;exact⟨rfl,ap.o.1,ap.o.2⟩
   | some l=>
    obtain⟨aK,ag,ak⟩:=d.o.laneAt hl;rw[ag] at q
    replace q:(Instr.lookup 90 (.map (some k.ML)) (ι x) true).run prog w= .ok (.tuple #[γ aK,true]) w:=q
    have ai:=κ (JB ak);have aB:=κ hl;have aC:=κ ag;obtain⟨g,ab⟩:=ν (l.gone);rw[ab] at ai;cases g with
    | true=>
     have G:Hid (s.subscribe x p n=(s,5)):=κ (by
      unfold RmS.subscribe JV
      rw[if_neg (by rw[ae.o];decide),if_neg (by rw[J];decide),hl,if_pos ab])
     rw[G.o];clear J hl ag ak ab H ac
     go_enter func46,ntmps46
     go_wp2_with (first | (go_at_call 89;(go_call aa.o _ as e w1 ⟨rfl,O⟩;obtain rfl:=O)) | (go_at_call 69;(go_call ai.o as e w2 ⟨rfl,N⟩;have I:=κ N;clear N)))
     go_ret;exact⟨rfl,d.o.at.on I.o,d.o.at.stay I.o⟩
    | false=>
     have U:=κ (λw' (m:qa w w')=>Jf (d.o.tab.more m) x p);have aj:s.subscribe x p n=if Y=0 then ({s with tab:=ay,lanes:=qx s.lanes x (jO l n).1},(jO l n).2) else (s,Y):=by
      unfold RmS.subscribe JV;rw[if_neg (by rw[ae.o];decide),if_neg (by rw[J];decide),hl];simp only;rw[if_neg (by rw[ab];decide),H,ac]
     by_cases e0:Y=0
     ·subst e0;have G:Hid (s.subscribe x p n=({s with tab:=ay,lanes:=qx s.lanes x (jO l n).1},(jO l n).2)):=κ (by rw[aj,if_pos rfl]);rw[H,ac] at U;rw[G.o];clear J hl ag ak ab H ac aj
      go_enter func46,ntmps46
      go_wp2_with (first | (go_at_call 89;(go_call aa.o _ as e w1 ⟨rfl,O⟩;obtain rfl:=O)) | (go_at_call 69;(go_call ai.o as e w2 ⟨rfl,N⟩;have I:=κ N;have au:=β11 (qc N d.o.blk);clear N)) | (go_at_call 105;(go_call U.o _ I.o as e aM ⟨rfl,af,a3⟩;have ad:=κ (KK (d.o.on I.o) af a3);obtain⟨aN,aP,aR,az⟩:=ad.o.1;have aE:=κ (Ak az aB.o aC.o n);clear af a3 az)) | (go_at_call 91;(go_call aE.o as e w4 ⟨rfl,av,t4⟩;have aA:=κ av;have aF:=κ t4;clear av t4)))
      go_ret;exact⟨rfl,aA.o,(d.o.at.stay I.o).trans (ad.o.2.trans aF.o)⟩
     ·have ah:=Vr (t:=s.tab) (x:=x) (p:=p) (by rw[H];exact e0);have G:Hid (s.subscribe x p n=(s,Y)):=κ (by rw[aj,if_neg e0]);rw[H,ah] at U;have aG:(Y != 0)=true:=by simp[e0]
      rw[G.o];clear J hl ag ak ab H ac aj ah e0
      go_enter func46,ntmps46
      go_wp2_with (first | (go_at_call 89;(go_call aa.o _ as e w1 ⟨rfl,O⟩;obtain rfl:=O)) | (go_at_call 69;(go_call ai.o as e w2 ⟨rfl,N⟩;have I:=κ N;have au:=β11 (qc N d.o.blk);clear N)) | (go_at_call 105;(go_call U.o _ I.o as e aM ⟨rfl,af,a3⟩;have ad:=κ (KK (d.o.on I.o) af a3);clear af a3)))
      go_ret;exact⟨rfl,ad.o.1,(d.o.at.stay I.o).trans ad.o.2⟩
end
section
open Go.RowKit Go.Lib
theorem Ll (w:World):Calls prog 317 #[δ none 0 0] w λe w'=>e= .returned (δ none 0 0)/\w'=w:=by
 go_enter func317,ntmps317
 go_wp2
 go_loopw [3,10] (λv d wr=>v= δ none 0 0/\d= ι 0/\wr=w) (λ_ _ _=>0)
 case atStart=>exact⟨rfl,rfl,rfl⟩
 case round=>
  obtain⟨rfl,rfl,rfl⟩:=hrel;go_wp2;go_ret;exact⟨rfl,rfl⟩
theorem An (d:Int) (w:World):Calls prog 314 #[θ #[ι 1,ω 0,ω d,(),()]] w λe w'=>e= .returned (μ true)/\qa w w':=by
 go_enter func314,ntmps314
 go_wp2;go_ret;exact⟨rfl,ρ⟩
theorem Lm (w:World):Calls prog 313 #[Γd] w λe w'=>e= .returned (μ true)/\qa w w':=by
 have d: ∀w:World,(binOp .eql 286 (θ #[ω 0,ω 0,ω 0,ω 0,ω 0]) (θ #[ω 0,ω 0,ω 0,ω 0,ω 0])).run prog w= .ok (μ true) w:=λw=>by kernel_rfl
 go_enter func313,ntmps313
 go_wp2;go_ret;exact⟨rfl,ρ⟩
theorem Ln (w:World):Calls prog 311 #[θ #[υ 0,υ 0,()]] w λe w'=>e= .returned (μ true)/\qa w w':=by
 go_enter func311,ntmps311
 go_wp2;go_ret;exact⟨rfl,ρ⟩
theorem MF (w:World):Calls prog 318 #[ι 1] w λe w'=>e= .returned (.tuple #[υ 206,υ 1])/\w'=w:=by
 go_enter func318,ntmps318
 go_wp2
 go_ret2
 exact⟨rfl,rfl⟩
theorem gA (d:Int):(qy 0 4++qy d 4).length=8:=by rw[List.length_append,Hw,Hw]
theorem Lk (d:Int) (aq:0<=d/\d<=4294967295) (w:World):Calls prog 289 #[θ #[ι 1,ω 0,ω d,(),()]] w λe w'=> ∃ob cb,e= .returned (.tuple #[θ #[υ 1,υ 206,δ ob 8 cb],ι 0])/\SlI .u8 w' (δ ob 8 cb) (qy 0 4++qy d 4)/\qa w w'/\jX w (δ ob 8 cb):=by
 have ak:=κ (qs (qj w (.cells #[ι 1,ω 0,ω d,(),()] 283)) (.cells #[υ 0,υ 0,()] 291));have am:=κ (qC (w:=w.alloc (.cells #[ι 1,ω 0,ω d,(),()] 283)) (n:=w.heap.size+1) (o:=(.cells #[υ 0,υ 0,()] 291)) η);have ax:=κ aq;clear aq
 go_enter func289,ntmps289
 go_wp2_with (first | (go_at_call 314;(go_call An d _ as e aa ⟨rfl,U⟩;have I:=κ (qc U ak.o);have an:=κ (qc U am.o);have ao:=κ (((qa.alloc w (.cells #[ι 1,ω 0,ω d,(),()] 283)).al (.cells #[υ 0,υ 0,()] 291)).trans U);clear U;have af:=κ (wR aa);have ac:=κ (qa.alloc aa (.cells #[δ none 0 0] 204));have az:=β1 (qc ac.o I.o))) | (go_at_call 95;((with_reducible refine(uw af.o 0 ζ η).mono ?_);rintro e w4 ⟨rfl,J⟩;have ad:=κ (J.to_more af.o ac.o (Nat.le_refl _));obtain⟨⟨v4,av,_⟩,_⟩:=J;have ag:=κ av;clear av az;have aA:=β2 (qc ad.o I.o))) | (go_at_call 95;((with_reducible refine(uw ag.o d ax.o (by simp only[List.length_append,Hw,List.length_nil];omega)).mono ?_);rintro e w5 ⟨rfl,J⟩;have H:=κ (J.to_more ag.o ad.o (Nat.le_refl _));obtain⟨⟨v5,aw,_⟩,_⟩:=J;have ah:=κ aw;clear aw aA;have aN:=β3 (qc H.o I.o);have aO:=β4 (qc H.o I.o);have aM:=β0 (qc H.o I.o))))
 clear af ag ac ad ak am;have aE:Hid (w.heap.size+1<aa.heap.size):=κ (qn an.o);rw[List.nil_append] at ah;generalize aa.heap.size=W at *
 go_loopw [24] (λai wr=>ai= ι 0/\wr=w5) (λ_ _=>0)
 case atStart=>exact⟨rfl,rfl⟩
 case round=>
  obtain⟨rfl,rfl⟩:=hrel
  go_wp2_with (go_at_call 317;(go_call Ll _ as e w6 ⟨rfl,rfl⟩))
  go_loopw [40] (λai aL=>ai= ι 0/\aL=w6) (λ_ _=>0)
  case atStart=>exact⟨rfl,rfl⟩
  case round=>
   obtain⟨rfl,rfl⟩:=hrel
   go_wp2_with (first | (go_at_call 318;(go_call MF _ as e aW ⟨rfl,rfl⟩)) | (go_at_call 97;(go_call wZ ah.o (by rw[gA];decide) as e ab ⟨v51,rfl,Y,aj⟩;rw[gA] at Y;have ae:=κ Y;have ay:=κ aj;have G:=κ (qc aj (qc H.o an.o));obtain⟨N,c5,rfl,-⟩:=GG Y;clear Y aj;have aP:=β0 G.o;have aQ:=β1 G.o;have aR:=β2 G.o;have aS:=qd G.o 0;have aT:=qd G.o 1;have aU:=qd G.o 2)))
   have O:=Ou G.o (υ 1) (υ 206) (δ N 8 c5);have ar:=(((ao.o.trans H.o).trans ay.o)).st3 (w.heap.size+1) τ (υ 1) (υ 206) (δ N 8 c5);have a3:qg (λb=>b=w.heap.size+1) ab (((ab.setCell ⟨w.heap.size+1,0,none⟩ (υ 1)).setCell ⟨w.heap.size+1,1,none⟩ (υ 206)).setCell ⟨w.heap.size+1,2,none⟩ (δ N 8 c5)):=
    (((qg.refl (λb=>b=w.heap.size+1) ab).set (p:=⟨w.heap.size+1,0,none⟩) rfl _).set (p:=⟨w.heap.size+1,1,none⟩) rfl _).set (p:=⟨w.heap.size+1,2,none⟩) rfl _
   have au:=XC ae.o a3 (λb aF e=>by have aB:=jG ae.o aF;have aC:=H.o.size;have aD:=aE.o;have aV:=qn ah.o.blk;omega);obtain⟨WF,ap⟩:=ν ((((ab.setCell ⟨w.heap.size+1,0,none⟩ (υ 1)).setCell ⟨w.heap.size+1,1,none⟩ (υ 206)).setCell ⟨w.heap.size+1,2,none⟩ (δ N 8 c5)));rw[ap] at O ar au ⊢;clear ap a3;have aI:=β0 O;have aJ:=β1 O;have aK:=β2 O
   (refine bodyPost_ret (v:= .tuple #[θ #[υ 1,υ 206,δ N 8 c5],ι 0]) ?rr1 rfl ?_;(case rr1=>(simp[results,results289,go_sem,aI,aJ,aK])))
   have aH:=SlI.of_owns (l:=qy 0 4++qy d 4) (by rw[gA];exact au) (by rw[gA];decide);exact⟨_,_,rfl,aH,ar,λg aG=>by have aB:=jG ae.o aG;have aC:=H.o.size;have aD:=ao.o.size;omega⟩
theorem FM (G:Int) (w:World):Calls prog 287 #[θ #[ι 2,false,ω 0,ω 0,ω 0,ω 0,ω 0,ω 0,(),ι 1,ω 0,ω G,(),(),υ 0,υ 0,()]] w λe w'=>e= .returned (μ true)/\qa w w':=by
 go_enter func287,ntmps287
 go_wp2_with (first | (go_at_call 313;(go_call Lm _ as e w1 ⟨rfl,m⟩;have H:=κ ((qa.alloc w _).trans m);have d:=κ (qc m (qj w _));obtain⟨⟨O,U,ag,ah,ai,aj,ak,al,am⟩,⟨an,Y,aa,ab,ac⟩,ad,ae,af⟩:=JC d.o;clear m)) | (go_at_call 311;(go_call Ln _ as e w2 ⟨rfl,m⟩;have I:=κ (H.o.trans m);have N:=κ (qc m d.o);obtain⟨⟨O,U,ag,ah,ai,aj,ak,al,am⟩,⟨an,Y,aa,ab,ac⟩,ad,ae,af⟩:=JC N.o;clear m)) | (go_at_call 314;(go_call An G _ as e ao ⟨rfl,m⟩;have J:=κ (I.o.trans m);clear m)))
 go_ret;exact⟨rfl,J.o⟩
theorem CH (d:Int) (ak:0<=d/\d<=4294967295) (w:World):Calls prog 259 #[θ #[ι 2,false,ω 0,ω 0,ω 0,ω 0,ω 0,ω 0,(),ι 1,ω 0,ω d,(),(),υ 0,υ 0,()]] w λe w'=> ∃ob cb,e= .returned (.tuple #[θ #[υ 1,υ 206,δ ob 8 cb],ι 0])/\SlI .u8 w' (δ ob 8 cb) (qy 0 4++qy d 4)/\qa w w'/\jX w (δ ob 8 cb):=by
 obtain⟨J,H⟩:=ν ((w.alloc (.cells #[ι 2,false,ω 0,ω 0,ω 0,ω 0,ω 0,ω 0,(),ι 1,ω 0,ω d,(),(),υ 0,υ 0,()] 293)).alloc (.cells #[υ 0,υ 0,()] 291));have ag:Hid (qa w J):=κ (by rw[<-H];exact(qa.alloc _ _).al _);have ab:Hid (J.heap[w.heap.size]? =some (.cells #[ι 2,false,ω 0,ω 0,ω 0,ω 0,ω 0,ω 0,(),ι 1,ω 0,ω d,(),(),υ 0,υ 0,()] 293)):=κ (by rw[<-H];exact qs (qj w _) _);have af:Hid (J.heap[w.heap.size+1]? =some (.cells #[υ 0,υ 0,()] 291)):=κ (by rw[<-H];exact qC η)
 go_enter func259,ntmps259
 go_upto_region 1 with fail
 (try rw[H])
 clear H;obtain⟨⟨am,an,ax,ay,az,aA,aB,aC,aD⟩,⟨aE,ao,ap,aq,ar⟩,au,av,aw⟩:=JC ab.o
 go_wp2_with (first | (go_at_call 287;(go_call FM d _ as e w1 ⟨rfl,m⟩;have Y:=κ (ag.o.trans m);have aj:=κ (qc m ab.o);have U:=κ (qc m af.o);obtain⟨⟨am,an,ax,ay,az,aA,aB,aC,aD⟩,⟨aE,ao,ap,aq,ar⟩,au,av,aw⟩:=JC aj.o;clear m)) | (go_at_call 289;(go_call Lk d ak _ as e w2 ⟨o2,c2,rfl,s2,O,n2⟩;have ai:=κ s2;have aa:=κ n2;have ah:=κ (Y.o.trans O);have G:=κ (qc O U.o);have aI:=β0 G.o;have aJ:=β1 G.o;have aK:=β2 G.o;have aL:=qd G.o 0;have aM:=qd G.o 1;have aN:=qd G.o 2;clear s2 O n2)))
 have I:=Ou G.o (υ 1) (υ 206) (δ o2 8 c2);have a3:qg (λb=>b=w.heap.size+1) w2 (((w2.setCell ⟨w.heap.size+1,0,none⟩ (υ 1)).setCell ⟨w.heap.size+1,1,none⟩ (υ 206)).setCell ⟨w.heap.size+1,2,none⟩ (δ o2 8 c2)):=(((qg.refl (λb=>b=w.heap.size+1) w2).set (p:=⟨w.heap.size+1,0,none⟩) rfl _).set (p:=⟨w.heap.size+1,1,none⟩) rfl _).set (p:=⟨w.heap.size+1,2,none⟩) rfl _;have ad:=qg.to_more ah.o a3 (λb e=>by omega);have ae:=ai.o.off2 (λ_ b N (e:b=w.heap.size+1)=>by have:=aa.o b N;have:=qn U.o;omega) a3;obtain⟨WF,ac⟩:=ν ((((w2.setCell ⟨w.heap.size+1,0,none⟩ (υ 1)).setCell ⟨w.heap.size+1,1,none⟩ (υ 206)).setCell ⟨w.heap.size+1,2,none⟩ (δ o2 8 c2)));rw[ac] at I ad ae ⊢;clear ac a3;have aF:=β0 I;have aG:=β1 I;have aH:=β2 I
 (refine bodyPost_ret (v:= .tuple #[θ #[υ 1,υ 206,δ o2 8 c2],ι 0]) ?rr2 rfl ?_;(case rr2=>(simp[results,results259,go_sem,aF,aG,aH])))
 exact⟨_,_,rfl,ae,ad,λb N=>Nat.le_trans Y.o.size (aa.o b N)⟩
theorem WN (n s:Int):Byt (qy n s):=by
 unfold qy;split
 ·exact JF _ _
 ·exact xh
theorem Ex (d:Int):xk (Zb d):=⟨⟨by show (0:Int)<=1;decide,by show (1:Int)<=255;decide⟩,⟨by show (0:Int)<=206;decide,by show (206:Int)<=255;decide⟩,zZ (WN 0 4) (WN d 4)⟩
theorem FN (d:Int) (aw:0<=d/\d<=4294967295) (b cap:Nat) (w:World) (aL:b<w.heap.size) (ah:w.rangeAt b 0 [ι 2,false,ω 0,ω 0,ω 0,ω 0,ω 0,ω 0,(),ι 1,ω 0,ω d,(),(),υ 0,υ 0,()]):Calls prog 205 #[δ (some ⟨b,0,none⟩) 1 cap] w λe w'=> ∃vx,e= .returned (.tuple #[vx,ι 0])/\SlP 3 yH w' vx [Zb d]/\qa w w':=by
 obtain⟨aC,hi,ax,ay,az⟩:=info_parts (P:=prog) (e:=291) (z:= θ #[υ 0,υ 0,()]) (size:=3) (bytes:=32) ξ;obtain⟨aD,aE,aF,aG,aH⟩:=info_parts (P:=prog) (e:=29) (z:= ι 0) (size:=1) (bytes:=8) ξ;have an:=κ ah;have ao:Hid (ChJ w w (δ none 0 0) (δ none 0 0) [] []):=κ ⟨je.nil _ _ _ _ _ _,World.ownsRow_nil _ _ _ _,qa.refl _⟩;clear ah
 go_enter func205,ntmps205
 go_wp2
 go_loopw [4,5,12] (λu v H wr=>(H= ι 0/\u= δ none 0 0/\v= δ none 0 0/\wr=w)∨(H= ι 1/\ ∃ad aa N ae ab O,u= δ ad aa N/\v= δ ae ab O/\ChJ w wr (δ ad aa N) (δ ae ab O) [Zb d] [0])) (λ_ _ H _=>1-(intOf H).toNat)
 case atStart=>exact Or.inl ⟨rfl,rfl,rfl,rfl⟩
 case round=>
  rcases hrel with ⟨rfl,rfl,rfl,rfl⟩ | ⟨rfl,ad,aa,N,ae,ab,O,rfl,rfl,ag⟩
  ·go_wp2_with (first | (refine wpList_load_mid rfl 293 (.tmp 14) rfl b 0 rfl [ι 2,false,ω 0,ω 0,ω 0,ω 0,ω 0,ω 0,(),ι 1,ω 0,ω d,(),(),υ 0,υ 0,()] _ an.o underlying293 rfl ξ ?_) | (refine jU rfl 293 (.tmp 7) (.tmp 15) rfl wr _ #[ι 2,false,ω 0,ω 0,ω 0,ω 0,ω 0,ω 0,(),ι 1,ω 0,ω d,(),(),υ 0,υ 0,()] rfl rfl rfl ξ rfl rfl ?_) | (refine wpList_load_row rfl 293 (.tmp 7) rfl wr.heap.size rfl _ #[ι 2,false,ω 0,ω 0,ω 0,ω 0,ω 0,ω 0,(),ι 1,ω 0,ω d,(),(),υ 0,υ 0,()] _ _ (heap_alloc_new wr _) underlying293 rfl ξ ?_) | (go_at_call 259;(go_call CH d aw _ as e w1 ⟨ac,af,rfl,s1,am,aI⟩;have ar:=κ s1;have aq:=κ ((qa.alloc wr (.cells #[ι 2,false,ω 0,ω 0,ω 0,ω 0,ω 0,ω 0,(),ι 1,ω 0,ω d,(),(),υ 0,υ 0,()] 293)).trans am);have G:=κ ((ao.o.on aq.o).on ((qa.alloc w1 (.cells #[υ 1,υ 206,δ ac 8 af] 291)).al (.cells #[υ 1,υ 206,δ ac 8 af] 291)));clear s1 am aI)) | (at_builtin;refine jN _ rfl (.tmp 21) (.tmp 23) 385 rfl wr.heap.size 291 aC (θ #[υ 0,υ 0,()]) 3 32 underlying385 hi ax ay az rfl ζ _ [] rfl G.o.row (w1.heap.size+1) [υ 1,υ 206,δ ac 8 af] (Zb d) rfl rfl (zS η) (by simp[Value.oneCell']) ((Dd (c:=Zb d) ar.o (Ex d) (λ_ g _ h=>by rcases h with h | h<;>cases h)).on ((qa.alloc _ _).al _)) (λb h=>gB G.o.errs h) ζ ζ G.o.more.size ?_;intro v8 w8 U ai av;have J:=κ (G.o.put U ai);obtain⟨aN,aM,aJ,rfl,aA,aB⟩:=U.shape;clear U ai av aA aB) | (at_builtin;refine qU _ rfl (.tmp 25) (.tmp 27) 416 rfl wr.heap.size 29 aD (ι 0) 8 underlying416 aE aF aG aH rfl _ .i64 [] rfl (J.o.on (qa.alloc _ _)).errs _ [0] rfl (SlI.lit .i64 w8 [0] 29 _ 1 _ rfl rfl rfl η) η ζ (by have:=J.o.more.size;simp;omega) ?_;intro v9 w9 Y aj ak;have ap:=κ ((J.o.on (qa.alloc _ _)).err (E':=[0]) Y aj ak);obtain⟨aO,aK,au⟩:=xl Y;subst au;clear Y aj ak))
   go_roundw
   case rel=>exact Or.inr ⟨by go_num,_,_,_,_,_,_,rfl,rfl,ap.o⟩
   case measure=>simp[intOf]
  ·have I:=κ ag;clear ag
   go_wp2_with (go_at_call 242;(go_call gh [0] _ _ (SlI.of_owns I.o.errs ζ) as e aP ⟨rfl,rfl⟩))
   go_ret2
   exact⟨_,rfl,I.o.row.sl ζ,I.o.more⟩
theorem Vs (d:Int):[Zb d].length<=100000/\ ∀i,i<[Zb d].length->([Zb d].getD i xu).2.2.1.length<=1000000:=by
 refine⟨η,λi hi=> ?_⟩;obtain rfl:i=0:=by simpa using hi
 show (qy 0 4++qy d 4).length<=1000000;rw[gA]
 decide
theorem FL (d:Int) (ac:0<=d/\d<=4294967295) {b t:Nat} (cap:Nat) (w:World) (H:w.heap[b]? =some (.cells #[ι 2,false,ω 0,ω 0,ω 0,ω 0,ω 0,ω 0,(),ι 1,ω 0,ω d,(),(),υ 0,υ 0,()] t (0,0))):Calls prog 144 #[δ (some ⟨b,0,none⟩) 1 cap] w λe w'=> ∃G er,e= .returned (.tuple #[G,ι er])/\SlI .u8 w' G (ug d)/\qa w w'/\ ∀g,G.ownBlock=some g->w.heap.size<=g:=by
 have O:=κ (FN d ac b cap w (qn H) (λj v ad=>by rw[Nat.zero_add];exact qb H j (by simpa using ad)));clear H
 go_enter func144,ntmps144
 go_wp2_with (first | (go_at_call 205;(go_call O.o as e w1 ⟨G,rfl,s1,J⟩;have aa:=κ s1;have I:=κ J;clear s1 J)) | (go_at_call 206;(go_call Dy G [Zb d] _ aa.o (Vs d).1 (Vs d).2 as e w2 ⟨ae,rfl,s2,N,n2⟩;have ab:=κ s2;have U:=κ (I.o.trans N);have Y:=κ (λ(b:Nat) (hb:ae.ownBlock=some b)=>Nat.le_trans I.o.size (n2 b hb));clear s2 N n2)))
 go_ret2
 exact⟨_,_,rfl,ab.o,U.o,Y.o⟩
end
section
variable {T:Nat->Tg} {w0 w w':World} {k:RmK} {vp vr:Value} {s:RmS} {F:List Nat}
theorem CF (bk:qI w0 w k s F) (G o2:Int) (aL: ∀o v,qh s.tab.s o=some v->0<=v/\v<=4294967295) (bB:s.reqs.length<=1000000):
  Calls prog 86 #[γ k.R,θ #[ι G,ι o2]] w λe w'=>e= .returned (.tuple #[])/\qI w0 w' k (s.request (G,o2)) F/\qw F w w':=by
 obtain⟨T,vp,bD,h⟩:=bk;obtain⟨W1,af⟩:=ν (w.alloc (.cells #[ι G,ι o2] 58));have aq:Hid (qa w W1):=κ (by rw[<-af];exact qa.alloc _ _);have ax:Hid (W1.heap[w.heap.size]? =some (.cells #[ι G,ι o2] 58 (0,0))):=κ (by rw[<-af];exact qj w _);have ab:=κ (h.on aq.o);have bi:=κ (h.at.stay aq.o);have az:=κ h.fresh;obtain⟨d,ah⟩:=ν ((qh s.tab.s (G,o2)).getD 0)
 have be:Hid (0<=d/\d<=4294967295):=κ (by
  rw[<-ah];cases hm:qh s.tab.s (G,o2) with
  | none=>exact⟨ζ,ζ⟩
  | some v=>exact aL _ v hm)
 have bd:Hid (s.request (G,o2)={s with reqs:=s.reqs++[⟨(G,o2),s.clock,ug d⟩]}):=κ (by unfold RmS.request;rw[ah]);have aA:=κ (CC (ab.o.tab.more (qa.drewN W1 1)) (G,o2));rw[ah] at aA;clear ah aL h;have aZ:=λ(x:qt W1)=>β11 (qc x.h ab.o.blk)
 have an:=λ(x:qt W1)=>qc x.h ax.o
 have aj:=λx=>β0 (an x);have ak:=λx=>β1 (an x);clear an
 go_enter func86,ntmps86
 go_upto_region 1 with fail
 (try rw[af])
 clear af;refine Qn W1 11 11 [5] ?_
 refine Qq5 ?_
 (refine Ql ?_;intro K H)
 (with_reducible refine aA.o.mono ?_)
 rintro e w2 ⟨rfl,aN⟩;have ae:Hid (qa W1 w2):=κ ((qa.drewN W1 1).trans aN);clear aN;refine⟨_,rfl,qk ae.o,H _ _ ?_⟩;clear H K
 iterate 5 (refine qE rfl rfl (qk ae.o) ?_;intro K H;go_big_quiet_op;go_big_quiet_on)
 refine qA ?_;clear aZ aj ak;obtain⟨au,ag⟩:=ν ((w2.alloc (.cells #[ι 1,ω 0,ω d,(),()] 283)).alloc (.cells #[ι 2,false,ω 0,ω 0,ω 0,ω 0,ω 0,ω 0,(),ι 1,ω 0,ω d,(),(),υ 0,υ 0,()] 293));have aD:Hid (qa w2 au):=κ (by rw[<-ag];exact(qa.alloc _ _).al _);have bh:Hid (au.heap[w2.heap.size+1]? =some (.cells #[ι 2,false,ω 0,ω 0,ω 0,ω 0,ω 0,ω 0,(),ι 1,ω 0,ω d,(),(),υ 0,υ 0,()] 293 (0,0))):=κ (by rw[<-ag];exact qC η);have aC:=κ (FL d be.o 1 au bh.o)
 go_upto_region 4 with (first | (refine jU rfl 283 (.tmp 6) (.tmp 19) rfl w2 _ #[ι 1,ω 0,ω d,(),()] rfl rfl rfl ξ rfl rfl ?_) | (refine wpList_load_row rfl 283 (.tmp 6) rfl w2.heap.size rfl _ #[ι 1,ω 0,ω d,(),()] _ _ (heap_alloc_new w2 _) underlying283 rfl ξ ?_) | ((try rw[ag]);(go_at_call 144;(go_call aC.o as e w5 ⟨bE,bv,rfl,aw,aO,aP⟩;have aE:=κ aw;have bf:Hid (qa w2 w5):=κ (aD.o.trans aO);have bg:=κ (λb I=>Nat.le_trans aD.o.size (aP b I));obtain⟨aa,Y,rfl,_⟩:=id aw;clear aw aO aP))))
 clear ag aC;have ar:Hid (qa W1 w5):=κ (ae.o.trans bf.o);have aW:=ab.o.on ar.o;have bj:=κ (bi.o.trans (ab.o.at.stay ar.o));have bC:=ab.o.more.size
 obtain⟨J,aX,aG,aH⟩:=aW.data (λb=>ug d≠[]/\(δ aa (ug d).length Y).ownBlock=some b) (λb I=>by
  have bx:=bg.o b I.2;have bz:=ae.o.size;have bA:=aq.o.size
  exact⟨az.o b τ,τ,aE.o.old I.1 I.2,λhF=>by have:=(ab.o.law b hF).2.2;omega⟩)
 have U:=κ aX;have aB:=κ aG;clear aX aG aW;have aY:=κ (qc ar.o ax.o);obtain⟨O,_,N,rfl,rfl,_⟩:=(U.o.all .reqs).1.shape;obtain⟨_,aM⟩:=U.o.all .reqs;have am:=κ aM;clear aM;have aR: ¬(δ O s.reqs.length N).ownBlock=some k.R:=λe=>by have:=am.o _ e;rw[(U.o.all .room).1] at this;cases this
 have aK:J w.heap.size= .no∨J w.heap.size= .data:=by
  by_cases e:ug d≠[]/\(δ aa (ug d).length Y).ownBlock=some w.heap.size
  ·exact Or.inr (aB.o _ e)
  ·exact Or.inl (by rw[aH _ e];exact az.o _ (Nat.le_refl _))
 have bt: ¬(δ O s.reqs.length N).ownBlock=some w.heap.size:=λe=>by have:=am.o _ e;rcases aK with q | q<;>rw[q] at this<;>cases this
 clear aK aH;have ao:=λ(x:qz (λb=>(δ O s.reqs.length N).ownBlock=some b) w5)=>x.h.blk U.o.blk aR
 have ba:=λx=>β15 (ao x);have bb:=λx=>β9 (ao x);clear ao
 have ap:=λ(x:qz (λb=>(δ O s.reqs.length N).ownBlock=some b) w5)=>x.h.blk aY.o bt
 have aj:=λx=>β0 (ap x);have ak:=λx=>β1 (ap x);clear ap
 obtain⟨bs,hi,bp,bq,br⟩:=info_parts (P:=prog) (e:=296) (z:= θ #[ι 0,ι 0,ι 0,()]) (size:=4) (bytes:=48) ξ;refine QN (λb=>(δ O s.reqs.length N).ownBlock=some b) w5 16 17 [12,13,14,16] ?_
 refine Nz ?_
 clear ba bb aj ak
 (refine Ql ?_;intro K H)
 refine⟨qi (((qg.refl _ w5).drewN 1).alc _),H _ _ ?_⟩;clear H K;have bo: ∀g,(δ O s.reqs.length N).ownBlock=some g->J g= .reqs:=am.o;have aU:=(((U.o.all .reqs).1.on (qa.drewN w5 1)).on (qa.alloc _ (.cells #[ι G,ι o2,ι s.clock,δ aa (ug d).length Y] 296))).other (D':=λb=>(J b≠ .data/\J b≠ .reqs)/\b<w5.heap.size) (λb I=>Or.inl I.1);have aV:=(aE.o.keep (qa.drewN w5 1)).keep (qa.alloc _ (.cells #[ι G,ι o2,ι s.clock,δ aa (ug d).length Y] 296));have aT:jw RRq (λb=>((J b≠ .data/\J b≠ .reqs)/\b<w5.heap.size)∨(δ O s.reqs.length N).ownBlock=some b) ((w5.drewN 1).alloc (.cells #[ι G,ι o2,ι s.clock,δ aa (ug d).length Y] 296)) [ι G,ι o2,ι s.clock,δ aa (ug d).length Y] ⟨(G,o2),s.clock,ug d⟩:=λw' a=>
  ⟨_,rfl,aV.off2 (λbn b I ad=>by
   have e:=aB.o b ⟨bn,I⟩;rcases ad with ad | ad
   ·exact ad.1.1 e
   ·rw[bo b ad] at e;cases e) a⟩
 refine jR rfl rfl ?_;intro K H
 refine zK (.tmp 31) (.tmp 39) 93 rfl 0 296 bs (θ #[ι 0,ι 0,ι 0,()]) 4 48 underlying93 hi bp bq br rfl ζ _ s.reqs rfl aU w5.heap.size [ι G,ι o2,ι s.clock,δ aa (ug d).length Y] ⟨(G,o2),s.clock,ug d⟩ rfl rfl (kX rfl) (by simp[Value.oneCell']) aT (λb I=>by
  have:=I.2;have:=(((qa.drewN w5 1)).al (.cells #[ι G,ι o2,ι s.clock,δ aa (ug d).length Y] 296)).size
  omega) ζ τ (Nat.zero_le _) ?_
 intro v6 w6 av aJ aI;have ac:Hid (qg (λb=>(δ O s.reqs.length N).ownBlock=some b) w5 w6):=κ ((((qg.refl _ w5).drewN 1).alc _).trans (qg.of_grown aJ));obtain⟨aS,aQ,aF,rfl,bl,bm⟩:=av.shape;have ai:=κ (ac.o.blk U.o.blk aR);have bc:(J k.R≠ .data/\J k.R≠ .reqs)/\k.R<w5.heap.size:=⟨by rw[(U.o.all .room).1];exact⟨η,η⟩,U.o.lt⟩;have ay:=κ (U.o.reqsPut (y:=⟨(G,o2),s.clock,ug d⟩) ((ac.o.mono (S':=λb=>(δ O s.reqs.length N).ownBlock=some b∨b=k.R) (λb I=>Or.inl I)).set (p:=⟨k.R,15,none⟩) (Or.inr rfl) (δ aS aQ aF)) (((qa.drewN w5 1)).al (.cells #[ι G,ι o2,ι s.clock,δ aa (ug d).length Y] 296)).size (av.step (qg.set (S:=λb=>(J b≠ .data/\J b≠ .reqs)/\b<w5.heap.size) (qg.refl _ _) (p:=⟨k.R,15,none⟩) bc (δ aS aQ aF))) aI (qB (qp ai.o 15 _) rfl));have bu:w6.cell? ⟨k.R,15,none⟩=some (δ O s.reqs.length N):=qb ai.o 15 rfl;have bw:w6.frozen? ⟨k.R,15,none⟩=false:=qd ai.o 15;clear av aJ aI aU aT aV bl bm;refine⟨qi ac.o,H _ _ ?_⟩;clear H K;go_simp
 (refine Ql ?_;intro K H)
 refine⟨qi ac.o,H _ _ ?_⟩;clear H K
 iterate 1 (refine qE rfl rfl (qi ac.o) ?_;intro K H;go_big_quiet_op;go_big_quiet_on)
 (refine Qe ?_;intro K H)
 refine H _ _ ?_;clear H K;refine qA ?_;go_wp2
 (refine bodyPost_end (v:= .tuple #[]) ?re1 rfl ?_;(case re1=>simp[results,results86,go_sem]))
 exact⟨rfl,by rw[bd.o];exact ay.o.1,bj.o.trans ay.o.2⟩
end
theorem xw {P:Program} {w:World} {o:Oper} {a:Act} {C:World->Prop} {K:Act->World->Prop} (G:TypeId) (x y:Operand) (J:o.op= .store G x y)
  (g:Nat) (t:TypeId) (c d:Array Value) (I:w.heap[g]? =some (.cells c t (0,0))) (O:a.eval x= γ g) (U:a.eval y= θ d)
  (hi:(P.info? G).map (·.size)=some d.size) (N:c.size=d.size) (H:d.all (·.oneCell')=true)
  (h:C (w.setRow g d)/\K (a.put o.dst undef) (w.setRow g d)):jn P C o a w K:=by
 unfold jn execOp;simp only[J,O,U,Instr.storeAt,Instr.sureAddr,Sem.run_bind,Sem.run_pure,Result.andThen_ok,run_storeVar_row w g t G c d I hi N H];exact h
theorem qa.row {w w':World} (h:qa w w') {g:Nat} (G:w.heap.size<=g) (cs:Array Value):qa w (w'.setRow g cs):=qg.to_more h (qg.setRow w' g cs) (λb d=>by rw[d];exact G)
theorem Tk.subs {m:Nat} {d:Int} {s s':RmS} (h:Tk m d s s') (k:zc s):zc s':=⟨by rw[h.tab];exact k.keys,by rw[h.tab,h.lanes];exact k.lane,by rw[h.tab];exact k.few⟩
theorem qV.subs {n:Nat} {s:RmS} (h:qV n s) (d:n<=1000):zc s:=⟨h.tb.keys,h.tb.lane,Nat.le_trans h.num.few τ⟩
section
variable {T:Nat->Tg} {w0 w w':World} {k:RmK} {vp vr:Value} {s:RmS} {F:List Nat}
theorem Hn {n:Nat} (aW:qI w0 w k s F) (bI:qV n s) (cv:n<=1000):
  Calls prog 34 #[γ k.R] w λe w'=>e= .returned (ι s.tick.2)/\qI w0 w' k s.tick.1 F/\qw F w w':=by
 have bm:=κ aW;have ao:=κ bI;obtain⟨vp,cB,aB⟩:=aW.blk;have bD:=β7 aB;have cp:=β9 aB;have cr:=qd aB 9;obtain⟨cq,bb⟩:=ν (s.closed);rw[bb] at bD;have bn:=κ bb;clear bb aB aW bI;cases cq with
 | true=>
  have aD:Hid (s.tick=(s,7)):=κ (by unfold RmS.tick;rw[if_pos bn.o]);rw[aD.o]
  go_enter func34,ntmps34
  go_wp2;go_ret;exact⟨rfl,bm.o,qw.refl _ _⟩
 | false=>
  obtain⟨cN,cO⟩:=ao.o.num.clock;have aQ:=κ (bm.o.cell 9 (ι (s.clock+1)) (s':={s with clock:=s.clock+1}) (λ_ _=>rfl) ⟨rfl,rfl,rfl,rfl,rfl,rfl,rfl,rfl,rfl⟩);obtain⟨s1,aM⟩: ∃s1:RmS,{s with clock:=s.clock+1}=s1:=⟨_,rfl⟩;obtain⟨J,bc⟩:=ν (s.origins);have aD:Hid (s.tick=(J.foldl RmS.tick1 s1,0)):=κ (by unfold RmS.tick;rw[if_neg (by rw[bn.o];decide),bc,aM])
  have ar:Hid (zc s1/\xY s1.cfg=true/\(0<=s1.clock/\s1.clock<=1001)/\(∀o t,qh s1.strs o=some t->0<=t.asks.tries/\t.asks.tries<=9000/\0<=t.asks.last/\t.asks.last<=1000)/\s1.reqs.length<=9000/\(∀o v,qh s1.tab.s o=some v->0<=v/\v<=4294967295)/\s1.origins=J):=κ (by
   rw[<-aM];have ct:=ao.o.num.asks;have aL:=ao.o.num.reqs;have be:=ao.o.subs cv
   exact⟨⟨be.keys,be.lane,be.few⟩,ao.o.num.cfg,by simp only;omega,λo t az=>by have:=ct o t az;omega,by simp only;omega,ao.o.tb.src,bc⟩)
  obtain⟨W1,aY⟩:=ν (w.setCell ⟨k.R,9,none⟩ (ι (s.clock+1)));rw[aM,aY] at aQ;obtain⟨T,vp,cB,bO⟩:=aQ.o.1;have bv:=κ bO;have bq:=κ bv.o.orgsF;rw[ar.o.2.2.2.2.2.2] at bq;clear bO aM bc
  go_enter func34,ntmps34
  go_wp2_with ((try rw[aY]);(go_at_call 64;(go_call bq.o as e w2 ⟨cZ,cap,Fn,rfl,bG,bW,bS,bL⟩;have cf:=κ bL;have cb:=κ bW.at;have ch:=κ bS;have cc:=κ bG;clear bL bW bS bG)))
  clear aY cp cr bD;have cj:=κ (aQ.o.2.trans (bv.o.at.stay ch.o));have cY:=cc.o
  go_loopw [22] (λbh wr=> ∃j:Nat,j<=J.length/\bh= ι j/\qI w0 wr k ((J.take j).foldl RmS.tick1 s1) (Fn++F)/\qw (Fn++F) w2 wr) (λbh _=>J.length-(intOf bh).toNat)
  case atStart=>exact⟨0,τ,rfl,cb.o,qw.refl _ _⟩
  case round=>
   obtain⟨j,cX,rfl,aL,az⟩:=hrel;have aS:=κ az;by_cases hlt:j<J.length
   ·have cu:(j:Int)<(J.length:Int):=by omega
    obtain⟨g,rfl,bC,c1⟩:=cf.o wr (λb aa=>az.2 b (by simp[aa])) j hlt;have bu:Hid (J.take (j+1)=J.take j++[J[j]]):=κ (by rw[List.take_add_one,List.getElem?_eq_getElem hlt];rfl);have am:=κ (ur (J.take j) s1);have bJ:(J.take j).length<=9:=by rw[List.length_take];omega
    have bp:=κ bJ;obtain⟨ts,bN⟩: ∃t,qh s1.strs J[j]=some t:=yB (by rw[ar.o.2.2.2.2.2.2];exact List.getElem_mem hlt);generalize J[j]=o at *;generalize bM:(J.take j).foldl RmS.tick1 s1=sj at *;have bt:=κ bM;clear bM az bJ;obtain⟨t,bf⟩: ∃t,qh sj.strs o=some t:=by
     have:=yt (am.o.strs o);rw[bN] at this;exact Option.isSome_iff_exists.1 this
    have aE:=κ bf;have bH:zc sj/\(1<=sj.cfg.space/\sj.cfg.space<=sj.cfg.retry/\sj.cfg.retry<=1000)/\xz sj.clock/\(0<=t.asks.tries/\t.asks.tries<=1000000/\xz t.asks.last):=by
     obtain⟨cw,cx,de,cy,df,dg,dh⟩:=ar.o;obtain⟨t0,a0,cn,co,ay⟩:=am.o.asks o t bf;obtain⟨bE,cQ,cR,cS⟩:=cy o t0 a0;rw[if_pos bE] at co;have:=bp.o;refine⟨am.o.subs cw,by rw[am.o.cfg];exact(kF cx).2.2.1,by rw[am.o.clock];exact⟨τ,τ⟩,cn bE,τ, ?_⟩;rcases ay with ay | ay<;>rw[ay]<;>exact⟨τ,τ⟩
    have ak:=κ bH;have cg:Hid (∀o v,qh sj.tab.s o=some v->0<=v/\v<=4294967295):=κ (by rw[am.o.tab];exact ar.o.2.2.2.2.2.1);have ce:Hid (sj.reqs.length<=1000000):=κ (by have:=am.o.reqs;have:=ar.o.2.2.2.2.1;have:=bp.o;omega);clear bH bN bf;obtain⟨I,o2⟩:=o;simp only at bC c1;obtain⟨ah,aK⟩:=ν (wr.alloc (.cells #[ι I,ι o2] 58));have bx:Hid (qa wr ah):=κ (by rw[<-aK];exact qa.alloc _ _);have aA:Hid (ah.heap[wr.heap.size]? =some (.cells #[ι I,ι o2] 58 (0,0))):=κ (by rw[<-aK];exact qj wr _);have bA:=κ (aL.stay bx.o);obtain⟨cl,cA,cC,bP⟩:=aL;have aX:RmX cl w0 ah k cA cC sj ([wr.heap.size]++(Fn++F)):=bP.adds bx.o (λb aa=>by simp at aa;subst aa;exact⟨Nat.le_refl _,lt_of_block aA.o⟩);have aF:=κ aX;obtain⟨p,cG,v,bK,bQ⟩:=aX.strAt aE.o;have bw:=κ bQ;have bs:=κ bK;have bY:=λ(x:qt ah)=>β13 (qc x.h aF.o.blk)
    have aU:=λ(x:qt ah)=>qc x.h aA.o
    have bk:=λx=>β0 (aU x);have bl:=λx=>β1 (aU x);clear aU
    have bZ: ∀x:qt ah,(Instr.lookup 91 (.map (some k.MS)) (θ #[ι I,ι o2]) false).run prog x.w'= .ok (γ p) x.w':=λx=>by
     have:=ya (aF.o.stm.more x.h) (I,o2) false;rw[bs.o] at this;exact this
    clear bP aX bQ bK
    go_upto_region 7 with fail
    (try rw[aK])
    clear aK bC c1;refine Qn ah 7 7 [] ?_
    refine Qq7 ?_
    refine qA ?_;clear bY bZ bk bl
    go_upto_region 8 with fail
    obtain⟨G,ba⟩:=ν (ah.drewN 1);have aw:Hid (qa ah G):=κ (by rw[<-ba];exact qa.drewN _ 1);have aG:=κ (aF.o.on aw.o);have ck:=κ (aF.o.at.stay aw.o)
    (try rw[ba])
    clear ba;obtain⟨bV,bg⟩:=ν (sj.wants (I,o2));have aT:=κ (λw' (m:qa G w')=>FA (aG.o.on m) ak.o.1 I o2 aE.o);rw[bg] at aT;obtain⟨cz,bd⟩:=ν (vU sj.cfg.space sj.cfg.retry t.asks bV sj.clock);have au:=κ (λw'=>Cy sj.cfg.space sj.cfg.retry t.asks bV sj.clock ak.o.2.1.1 ak.o.2.1.2.1 ak.o.2.1.2.2 ak.o.2.2.2.1 ak.o.2.2.2.2.1 ak.o.2.2.2.2.2 ak.o.2.2.1 w');rw[bd] at au;obtain⟨⟨Y,N,O,U⟩,bi⟩:=cz;simp only at au;have bo:Hid (sj.tick1 (I,o2)=if bi then ({sj with strs:=qx sj.strs (I,o2) {t with asks:=⟨Y,N,O,U⟩}}:RmS).request (I,o2) else {sj with strs:=qx sj.strs (I,o2) {t with asks:=⟨Y,N,O,U⟩}}):=κ (by unfold RmS.tick1;rw[aE.o];simp only[bg,bd]);clear bg bd
    go_cut [6,7] from 32 to 51 (λv6 v7 ac=> ∃A,v6= γ A/\v7= μ bi/\ac.heap[A]? =some (.cells #[μ Y,N,ι O,ι U] 174 (0,0))/\qa G ac)
    case first=>
     have aH:=λ(x:qt G)=>qc x.h aG.o.blk
     have cD:=λx=>β4 (aH x);have cE:=λx=>β5 (aH x);have cF:=λx=>β9 (aH x);clear aH
     have av:=λ(x:qt G)=>qc (aw.o.trans x.h) bw.o.blk
     have cH:=λx=>β3 (av x);have cI:=λx=>β4 (av x);have cJ:=λx=>β5 (av x);have S6:=λx=>β6 (av x);clear av
     have aV:=λ(x:qt G)=>qc (aw.o.trans x.h) aA.o
     have bk:=λx=>β0 (aV x);have bl:=λx=>β1 (aV x);clear aV
     refine zB G 23 (.op 0 false (.op 1 false (.op 2 false (.op 3 false (.op 4 false (.op 5 false (.op 6 false (.op 7 false (.op 8 false (.op 9 false (.op 10 false (.op 12 false (.op 13 false (.op 14 false (.op 15 false (.br [11,20] λk=>if k=11 then .br [16,20] λk=>if k=16 then .op 17 false (.op 18 false (.op 19 false (.op 20 true (.op 21 true (.op 22 false (.done)))))) else .op 16 true (.op 17 false (.op 18 false (.op 19 false (.op 21 true (.op 22 false (.done)))))) else .op 11 true (.op 16 true (.op 17 false (.op 18 false (.op 19 false (.op 21 true (.op 22 false (.done))))))))))))))))))))))) ξ ξ ?_
     repeat (first | (refine jg rfl rfl (qk ρ) ?_) | (refine qH rfl rfl (qk ρ) ?_;intro K d;go_big_quiet_op;go_big_quiet_on))
     refine wP ζ ?_ ?_
     ·(refine qO rfl rfl ?_;intro K d;unfold jn;go_simp)
      refine(aT.o _ (qa.drewN G 1)).mono ?_;rintro e w5 ⟨rfl,bT⟩;have ax:Hid (qa G w5):=κ ((qa.drewN G 1).trans bT);clear bT;refine⟨_,rfl,qk ax.o,d _ _ ?_⟩;clear d K;refine wP ζ ?_ ?_
      ·(refine qO rfl rfl ?_;intro K d;unfold jn;go_simp)
       refine(au.o _).mono ?_;rintro e ac ⟨rfl,ap⟩;have ag:=κ (ax.o.trans ap);clear ap;refine⟨_,rfl,qk ag.o,d _ _ ?_⟩;clear d K
       repeat (first | (refine jg rfl rfl (qk ag.o) ?_) | (refine qH rfl rfl (qk ag.o) ?_;intro K d;go_big_quiet_op;go_big_quiet_on))
       (refine qO rfl rfl ?_;intro K d;unfold jn;go_simp)
       refine⟨qk (ag.o.al _),d _ _ ?_⟩;clear d K;obtain⟨A,ab⟩:=ν (ac.heap.size);obtain⟨w9,aN⟩:=ν (ac.alloc (.cells #[μ false,false,ι 0,ι 0] 174));have aj:Hid (w9.heap[A]? =some (.cells #[μ false,false,ι 0,ι 0] 174 (0,0))):=κ (by rw[<-aN,<-ab];exact qj ac _);have ad:Hid (qa G w9):=κ (by rw[<-aN];exact ag.o.al _);have aq:Hid (G.heap.size<=A):=κ (by rw[<-ab];exact ag.o.size)
       (try rw[aN])
       (try rw[ab])
       clear aN ab;refine qO rfl rfl ?_;intro K d;have H:=κ (ad.o.row aq.o #[μ Y,N,ι O,ι U]);have ae:=κ (jM aj.o #[μ Y,N,ι O,ι U]);refine xw 174 (.tmp 6) (.tmp 50) rfl A 174 _ #[μ Y,N,ι O,ι U] aj.o rfl rfl ξ rfl (by simp[Value.oneCell']) ?_;refine⟨qk H.o,d _ _ ?_⟩;clear d K;go_simp
       repeat (first | (refine jg rfl rfl (qk H.o) ?_) | (refine qH rfl rfl (qk H.o) ?_;intro K d;go_big_quiet_op;go_big_quiet_on))
       refine zg ?_;go_wp2;go_meet;exact⟨A,rfl,rfl,ae.o,H.o⟩
      ·(refine qO rfl rfl ?_;intro K d;unfold jn;go_simp)
       refine⟨qk (ax.o.al _),d _ _ ?_⟩;clear d K;obtain⟨A,ab⟩:=ν (w5.heap.size);obtain⟨w8,ai⟩:=ν (w5.alloc (.cells #[μ false,false,ι 0,ι 0] 174));have aP:Hid (w8.heap[A]? =some (.cells #[μ false,false,ι 0,ι 0] 174 (0,0))):=κ (by rw[<-ai,<-ab];exact qj w5 _);have aI:Hid (qa G w8):=κ (by rw[<-ai];exact ax.o.al _);have aq:Hid (G.heap.size<=A):=κ (by rw[<-ab];exact ax.o.size)
       (try rw[ai])
       (try rw[ab])
       clear ai ab
       (refine qO rfl rfl ?_;intro K d;unfold jn;go_simp)
       refine(au.o _).mono ?_;rintro e w9 ⟨rfl,an⟩;have ad:=κ (aI.o.trans an);have aj:=κ (qc an aP.o);clear an;refine⟨_,rfl,qk ad.o,d _ _ ?_⟩;clear d K
       repeat (first | (refine jg rfl rfl (qk ad.o) ?_) | (refine qH rfl rfl (qk ad.o) ?_;intro K d;go_big_quiet_op;go_big_quiet_on))
       refine qO rfl rfl ?_;intro K d;have H:=κ (ad.o.row aq.o #[μ Y,N,ι O,ι U]);have ae:=κ (jM aj.o #[μ Y,N,ι O,ι U]);refine xw 174 (.tmp 6) (.tmp 50) rfl A 174 _ #[μ Y,N,ι O,ι U] aj.o rfl rfl ξ rfl (by simp[Value.oneCell']) ?_;refine⟨qk H.o,d _ _ ?_⟩;clear d K;go_simp
       repeat (first | (refine jg rfl rfl (qk H.o) ?_) | (refine qH rfl rfl (qk H.o) ?_;intro K d;go_big_quiet_op;go_big_quiet_on))
       refine zg ?_;go_wp2;go_meet;exact⟨A,rfl,rfl,ae.o,H.o⟩
     ·(refine qO rfl rfl ?_;intro K d;unfold jn;go_simp)
      refine⟨qk ((qa.drewN G 1).al _),d _ _ ?_⟩;clear d K;obtain⟨ac,aO⟩: ∃ac:World,G.drewN 1=ac:=⟨_,rfl⟩;have ag:Hid (qa G ac):=κ (by rw[<-aO];exact qa.drewN G 1)
      (try rw[aO])
      (try rw[show G.heap.size=ac.heap.size from by rw[<-aO];rfl])
      clear aO;obtain⟨A,ab⟩:=ν (ac.heap.size);obtain⟨w8,ai⟩:=ν (ac.alloc (.cells #[μ false,false,ι 0,ι 0] 174));have aP:Hid (w8.heap[A]? =some (.cells #[μ false,false,ι 0,ι 0] 174 (0,0))):=κ (by rw[<-ai,<-ab];exact qj ac _);have aI:Hid (qa G w8):=κ (by rw[<-ai];exact ag.o.al _);have aq:Hid (G.heap.size<=A):=κ (by rw[<-ab];exact ag.o.size)
      (try rw[ai])
      (try rw[ab])
      clear ai ab
      (refine qO rfl rfl ?_;intro K d;unfold jn;go_simp)
      refine(aT.o _ aI.o).mono ?_;rintro e w6 ⟨rfl,ap⟩;have bz:=κ (aI.o.trans ap);have bX:=κ (qc ap aP.o);clear ap;refine⟨_,rfl,qk bz.o,d _ _ ?_⟩;clear d K
      (refine qO rfl rfl ?_;intro K d;unfold jn;go_simp)
      refine(au.o _).mono ?_;rintro e w9 ⟨rfl,an⟩;have ad:=κ (bz.o.trans an);have aj:=κ (qc an bX.o);clear an;refine⟨_,rfl,qk ad.o,d _ _ ?_⟩;clear d K
      repeat (first | (refine jg rfl rfl (qk ad.o) ?_) | (refine qH rfl rfl (qk ad.o) ?_;intro K d;go_big_quiet_op;go_big_quiet_on))
      refine qO rfl rfl ?_;intro K d;have H:=κ (ad.o.row aq.o #[μ Y,N,ι O,ι U]);have ae:=κ (jM aj.o #[μ Y,N,ι O,ι U]);refine xw 174 (.tmp 6) (.tmp 50) rfl A 174 _ #[μ Y,N,ι O,ι U] aj.o rfl rfl ξ rfl (by simp[Value.oneCell']) ?_;refine⟨qk H.o,d _ _ ?_⟩;clear d K;go_simp
      repeat (first | (refine jg rfl rfl (qk H.o) ?_) | (refine qH rfl rfl (qk H.o) ?_;intro K d;go_big_quiet_op;go_big_quiet_on))
      refine zg ?_;go_wp2;go_meet;exact⟨A,rfl,rfl,ae.o,H.o⟩
    case rest=>
    obtain⟨A,rfl,rfl,bB,bR⟩:=hcut;have ae:=κ bB;have H:=κ bR;clear bB bR;have cm:=κ (aG.o.on H.o);have af:=κ (bw.o.on (aw.o.trans H.o));have a0:=β0 ae.o;have cL:=β1 ae.o;have cM:=β2 ae.o;have a3:=β3 ae.o;have da:=β3 af.o.blk;have db:=β4 af.o.blk;have dc:=β5 af.o.blk;have dd:=β6 af.o.blk;have cT:=qd af.o.blk 3;have cU:=qd af.o.blk 4;have cV:=qd af.o.blk 5;have cW:=qd af.o.blk 6;have aC:=κ (cm.o.strSet (t':={t with asks:=⟨Y,N,O,U⟩}) aE.o bs.o af.o ((((qg.set (S:=λb=>b=p) (qg.refl _ _) (p:=⟨p,3,none⟩) rfl (μ Y)).set (p:=⟨p,4,none⟩) rfl (μ N)).set (p:=⟨p,5,none⟩) rfl (ι O)).set (p:=⟨p,6,none⟩) rfl (ι U)) (qB (qp (qp (qp (qp af.o.blk 3 _) 4 _) 5 _) 6 _) rfl) rfl);have aJ:=κ (ck.o.trans ((aG.o.at.stay H.o).trans aC.o.2));obtain⟨cK,aZ⟩:=ν (((((wc.setCell ⟨p,3,none⟩ (μ Y)).setCell ⟨p,4,none⟩ (μ N)).setCell ⟨p,5,none⟩ (ι O)).setCell ⟨p,6,none⟩ (ι U)));rw[aZ] at aC aJ;have bj:=κ (aJ.o.blk η aA.o);have ay:=β0 bj.o;have cP:=β1 bj.o;cases bi with
    | false=>
     have aR:Hid (sj.tick1 (I,o2)={sj with strs:=qx sj.strs (I,o2) {t with asks:=⟨Y,N,O,U⟩}}):=κ (by rw[bo.o];rfl);go_wp2
     (try rw[aZ])
     go_roundw
     case rel=>exact⟨j+1,τ,by go_num,by rw[bu.o,List.foldl_append,bt.o];show qI w0 _ k (sj.tick1 (I,o2)) _;rw[aR.o];exact aC.o.1.sub (λb aa=>List.mem_append_right _ aa),aS.o.trans (bA.o.trans (aJ.o.sub (λb aa=>List.mem_append_right _ aa)))⟩
     case measure=>simp[intOf];omega
    | true=>
     have aR:Hid (sj.tick1 (I,o2)=({sj with strs:=qx sj.strs (I,o2) {t with asks:=⟨Y,N,O,U⟩}}:RmS).request (I,o2)):=κ (by rw[bo.o];rfl);have cd:=κ (CF aC.o.1 I o2 cg.o ce.o)
     go_wp2_with ((try rw[aZ]);(go_at_call 86;(go_call cd.o as e di ⟨rfl,bF,bU⟩;have ca:=κ bF;have ci:=κ bU;clear bF bU)))
     go_roundw
     case rel=>exact⟨j+1,τ,by go_num,by rw[bu.o,List.foldl_append,bt.o];show qI w0 _ k (sj.tick1 (I,o2)) _;rw[aR.o];exact ca.o.sub (λb aa=>List.mem_append_right _ aa),aS.o.trans (bA.o.trans ((aJ.o.trans ci.o).sub (λb aa=>List.mem_append_right _ aa)))⟩
     case measure=>simp[intOf];omega
   ·obtain rfl:j=J.length:=by omega
    have cu: ¬(J.length:Int)<(J.length:Int):=by omega
    go_wp2;go_ret;exact⟨by rw[aD.o];rfl,by rw[aD.o];have:=aL;rw[List.take_length] at this;exact this.sub (λb aa=>List.mem_append_right _ aa),cj.o.trans (aS.o.sub (λb aa=>List.mem_append_right _ aa))⟩
end
section
open _root_.Go.Proofs.Tryz renaming func170->Ξa,ntmps170->Ξb
theorem Lv {w:World} {v:Value} {l:List Int} (x:Int) (s:SlI .i64 w v l):Calls prog 170 #[v,ι x] w (Ge x l w):=Ψ8
end
theorem MJ {w:World} {v:Value} {l:List Int} (x:Int) (s:SlI .i64 w v l):Calls prog 117 #[v,ι x] w λe w'=>e= .returned (μ (decide (x∈l)))/\w=w':=by
 go_enter func117,ntmps117
 go_wp2_with (go_at_call 170;(go_call Lv x s as e w2 ⟨n,d,H,rfl,rfl⟩;have G:=κ d;clear d))
 go_ret;exact⟨qZ (by rw[Bool.eq_iff_iff];simp only[decide_eq_true_eq];exact G.o),rfl⟩
def wkL (L M:List Int):List Og:=(0,0)::(1,0)::(M.filter λx=>decide (x∈L)).flatMap λx=>[(2,x),(3,x),(4,x)]
theorem Wy (L M:List Int):(wkL L M).length<=2+3* M.length:=by
 unfold wkL;have h: ∀d:List Int,(d.flatMap λx=>[((2,x):Og),(3,x),(4,x)]).length=3* d.length:=by
  intro d
  induction d with
  | nil=>rfl
  | cons x d ih=>rw[List.flatMap_cons,List.length_append,ih,List.length_cons,List.length_cons,List.length_cons,List.length_cons,List.length_nil];omega
 have:=List.length_filter_le (λx=>decide (x∈L)) M;rw[List.length_cons,List.length_cons,h];omega
theorem Vk (L M:List Int) (x:Int):wkL L (M++[x])=wkL L M++if x∈L then [(2,x),(3,x),(4,x)] else []:=by
 unfold wkL;rw[List.filter_append,List.flatMap_append];by_cases h:x∈L
 ·rw[if_pos h];simp[h]
 ·rw[if_neg h];simp[h]
theorem Vo {j:Nat} (h:j<6):subIds.take (j+1)=subIds.take j++[(j:Int)]:=by
 have:j=0∨j=1∨j=2∨j=3∨j=4∨j=5:=by omega
 rcases this with rfl | rfl | rfl | rfl | rfl | rfl<;>rfl
theorem Un (x:Int) {n:Nat} (h:n<3):([(2,x),(3,x),(4,x)]:List Og).take (n+1)=([(2,x),(3,x),(4,x)]:List Og).take n++[(((2+n:Nat):Int),x)]:=by
 have:n=0∨n=1∨n=2:=by omega
 rcases this with rfl | rfl | rfl<;>rfl
theorem Aw (w:World):je 2 RO (λ_=>False) (w.alloc (.cells #[ι 0,ι 0,ι 1,ι 0] 37)) w.heap.size 37 (δ (some ⟨w.heap.size,0,none⟩) 2 2) [(0,0),(1,0)]:=
 ⟨⟨[ι 0,ι 0,ι 1,ι 0],⟨rfl,Or.inr ⟨w.heap.size,2,_,rfl,Nat.le_refl _,qj w _,Nat.le_refl _,by unfold maxLen;omega,rfl,rfl⟩⟩,λi hi=>λw' _=>by
  have:i=0∨i=1:=by simp at hi;omega
  rcases this with rfl | rfl<;>rfl⟩,λb _ h=>h⟩
theorem KF {w:World} {v:Value} {L:List Int} (s:SlI .i64 w v L):
  Calls prog 71 #[v] w λe w'=> ∃v',e= .returned v'/\je 2 RO (λ_=>False) w' w.heap.size 37 v' (yp L)/\qa w w':=by
 obtain⟨aB,hi,aw,ax,ay⟩:=info_parts (P:=prog) (e:=37) (z:= θ #[ι 0,ι 0]) (size:=2) (bytes:=16) ξ;have ak:=κ s;obtain⟨aI,cap,rfl,_⟩:=id s;have e0:yp L=wkL L (subIds.take 6):=rfl;rw[e0];have ao:=κ (qa.alloc w (.cells #[ι 0,ι 0,ι 1,ι 0] 37));have aq:=κ (Aw w);clear s e0
 go_enter func71,ntmps71
 go_wp2
 go_loopw [3,9] (λu ad wr=> ∃i:Nat,i<=6/\ad= ι i/\(∃J I H,u= δ J I H)/\je 2 RO (λ_=>False) wr w.heap.size 37 u (wkL L (subIds.take i))/\qa w wr) (λ_ ad _=>6-(intOf ad).toNat)
 case atStart=>exact⟨0,τ,rfl,⟨_,_,_,rfl⟩,aq.o,ao.o⟩
 case round=>
  obtain⟨i,aF,rfl,⟨J,I,H,rfl⟩,U,O⟩:=hrel;have G:=κ U;have d:=κ O;clear U O;by_cases hlt:i<6
  ·have au:(i:Int)<6:=by omega
   have ae:=κ (Vo hlt);have af:=κ (Wy L (subIds.take i));have an:Hid ((subIds.take i).length=i):=κ (by rw[List.length_take];show min i 6=i;omega);have aa:=κ (MJ (i:Int) (ak.o.keep d.o));obtain⟨c,N⟩:=ν (decide ((i:Int)∈L));rw[N] at aa;cases c with
   | false=>
    have Y:Hid (wkL L (subIds.take (i+1))=wkL L (subIds.take i)):=κ (by rw[ae.o,Vk,if_neg (of_decide_eq_false N),List.append_nil]);clear N
    go_wp2_with (go_at_call 117;(go_call aa.o as e w2 ⟨rfl,ab⟩;obtain rfl:=ab))
    go_roundw
    case rel=>exact⟨i+1,τ,by go_num,⟨_,_,_,rfl⟩,by rw[Y.o];exact G.o,d.o⟩
    case measure=>simp[intOf];omega
   | true=>
    have Y:Hid (wkL L (subIds.take (i+1))=wkL L (subIds.take i)++[(2,(i:Int)),(3,(i:Int)),(4,(i:Int))]):=κ (by rw[ae.o,Vk,if_pos (of_decide_eq_true N)]);clear N;obtain⟨B,ag⟩:=ν (wkL L (subIds.take i));rw[ag] at Y af G;clear ag
    go_wp2_with (go_at_call 117;(go_call aa.o as e w2 ⟨rfl,ab⟩;obtain rfl:=ab))
    go_loopw [3,5] (λu st wr=> ∃n:Nat,n<=3/\st= ι ((2+n:Nat):Int)/\(∃J I H,u= δ J I H)/\je 2 RO (λ_=>False) wr w.heap.size 37 u (B++([(2,(i:Int)),(3,(i:Int)),(4,(i:Int))]:List Og).take n)/\qa w wr) (λ_ st _=>5-(intOf st).toNat)
    case atStart=>exact⟨0,τ,rfl,⟨_,_,_,rfl⟩,by rw[List.take_zero,List.append_nil];exact G.o,d.o⟩
    case round=>
     clear G d;obtain⟨n,aG,rfl,⟨J,I,H,rfl⟩,U,O⟩:=hrel;have G:=κ U;have d:=κ O;clear U O;by_cases hltn:n<3
     ·have av:((2+n:Nat):Int)<=4:=by omega
      have am:=κ (Un (i:Int) hltn);have ai:Hid (∀b,(δ J I H).ownBlock=some b->w.heap.size<=b):=κ (λb h=>G.o.ge h);have aD:(B++([(2,(i:Int)),(3,(i:Int)),(4,(i:Int))]:List Og).take n).length<=23:=by
       have:=af.o;have:=an.o;rw[List.length_append,List.length_take];show B.length+min n 3<=23;omega
      have aj:=κ (G.o.on (qa.alloc wr (.cells #[ι ((2+n:Nat):Int),ι (i:Int)] 37)))
      go_wp2_with (at_builtin;(refine jN (R:=RO) (D:=λ_=>False) _ rfl (.tmp 20) (.tmp 24) 98 rfl w.heap.size 37 aB (θ #[ι 0,ι 0]) 2 16 underlying98 hi aw ax ay rfl ζ _ (B++([(2,(i:Int)),(3,(i:Int)),(4,(i:Int))]:List Og).take n) rfl aj.o wr.heap.size [ι ((2+n:Nat):Int),ι (i:Int)] (((2+n:Nat):Int),(i:Int)) rfl rfl (zS η) (by simp[Value.oneCell']) (λw' _=>rfl) (λb h=>h.elim) ζ τ (d.o.al _).size ?_;intro v' w8 ac ah ar;have aC:Hid (qa w w8):=κ (Below.grown (d.o.al _) ah (d.o.al _).size ai.o);obtain⟨aJ,aH,aE,rfl,az,aA⟩:=ac.shape;have ap:=κ ac;clear ac ah ar az aA))
      go_roundw
      case rel=>exact⟨n+1,τ,by go_num,⟨_,_,_,rfl⟩,by rw[am.o,<-List.append_assoc];exact ap.o,aC.o⟩
      case measure=>simp[intOf];omega
     ·obtain rfl:n=3:=by omega
      have av: ¬((2+3:Nat):Int)<=4:=by omega
      go_wp2;go_roundw
      case rel=>exact⟨i+1,τ,by go_num,⟨_,_,_,rfl⟩,by rw[Y.o];exact G.o,d.o⟩
      case measure=>simp[intOf];omega
  ·obtain rfl:i=6:=by omega
   have au: ¬((6:Nat):Int)<6:=by omega
   go_wp2;go_ret;exact⟨_,rfl,G.o,d.o⟩
theorem Gw:prog.eqGuardType prog.depth 37=false:=by kernel_rfl
theorem Ea (d G H I:Int) (w:World):(binOp .eql 37 (θ #[ι d,ι G]) (θ #[ι H,ι I])).run prog w= .ok (μ (decide (((d,G):Og)=(H,I)))) w:=by
 have h:(Op.equalIn 10000 37 (θ #[ι d,ι G]) (θ #[ι H,ι I])).run prog w= .ok (decide (((d,G):Og)=(H,I))) w:=ZX (d,G) (H,I) w;rw[run_eql_struct,h];rfl
def JQ (w:World) (oa:Option Addr) (L:List Og):Prop:=L.length<=maxLen/\ ∀w',qa w w'-> ∀i (hi:i<L.length),∃b,oa=some ⟨b,0,none⟩/\w'.cell? ⟨b,i* 2,none⟩=some (.int .i64 L[i].1)/\w'.cell? ⟨b,i* 2+1,none⟩=some (.int .i64 L[i].2)
theorem LP {w:World} {v:Value} {L:List Og} {base:Nat} (h:je 2 RO (λ_=>False) w base 37 v L): ∃oa cap,v= δ oa L.length cap/\JQ w oa L:=by
 obtain⟨⟨xs,d,r⟩,_⟩:=h;rcases id d.2 with ⟨rfl,H⟩ | ⟨b,cap,cur,rfl,J,I,N,O,_⟩
 ·exact⟨none,0,by rw[H],by rw[H];exact Nat.zero_le _,λw' _ i hi=>by omega⟩
 ·refine⟨_,cap,rfl,τ,λw' m i hi=>⟨b,rfl, ?_, ?_⟩⟩
  ·have e:(xs.drop (i* 2)).take 2=[ι L[i].1,ι L[i].2]:=(r i hi).read;have e0:=congrArg (λl:List Value=>l[0]?) e;simp at e0;rw[m.cells _ _ (lt_of_block I),d.cellAt _ τ];exact e0
  ·have e:(xs.drop (i* 2)).take 2=[ι L[i].1,ι L[i].2]:=(r i hi).read;have G:=congrArg (λl:List Value=>l[1]?) e;simp at G;rw[m.cells _ _ (lt_of_block I),d.cellAt _ τ];exact G
theorem Lt {w:World} {al:Option Addr} {cap:Nat} {L:List Og} (d G:Int) (h:JQ w al L):
  Calls prog 118 #[δ al L.length cap,θ #[ι d,ι G]] w λe w'=> ∃n:Int,(0<=n↔(d,G)∈L)/\ -1<=n/\e= .returned (ι n)/\qa w w':=by
 obtain⟨az,aj⟩:=h;have N:=κ aj;unfold maxLen at az;obtain⟨W1,J⟩:=ν (w.alloc (.cells #[ι d,ι G] 37));have I:Hid (qa w W1):=κ (by rw[<-J];exact qa.alloc _ _);have an:Hid (W1.heap[w.heap.size]? =some (.cells #[ι d,ι G] 37 (0,0))):=κ (by rw[<-J];exact qj w _);have aA:=Gw;clear aj
 go_enter func118,ntmps118
 go_wp2
 (try rw[J])
 clear J
 go_loopw [8] (λY wr=> ∃k:Nat,k<=L.length/\Y= ι k/\(d,G)∉L.take k/\qa W1 wr) (λY _=>L.length-(intOf Y).toNat)
 case atStart=>exact⟨0,τ,rfl,η,qa.refl _⟩
 case round=>
  obtain⟨j,aB,rfl,ai,ah⟩:=hrel;have ad:=κ ai;have H:=κ ah;clear ai ah;by_cases hlt:j<L.length
  ·have ay:(j:Int)<(L.length:Int):=by omega
   obtain⟨b,rfl,_,_⟩:=N.o _ (I.o.trans H.o) j hlt;have ak:L.take (j+1)=L.take j++[L[j]]:=List.take_succ_eq_append_getElem hlt;have ar:=κ ak;have aq:=κ (List.getElem_mem hlt);have af: ∀x:qt wr,x.w'.cell? ⟨b,j* 2,none⟩=some (ι (L[j]).1):=λx=>by
    obtain⟨av,e,aw,_⟩:=N.o x.w' (I.o.trans (H.o.trans x.h)) j hlt;injection e with e
    injection e with e
    subst e;exact aw
   have ag: ∀x:qt wr,x.w'.cell? ⟨b,j* 2+1,none⟩=some (ι (L[j]).2):=λx=>by
    obtain⟨av,e,_,ax⟩:=N.o x.w' (I.o.trans (H.o.trans x.h)) j hlt;injection e with e
    injection e with e
    subst e;exact ax
   clear ak;generalize L[j]=y at *;obtain⟨aa,ab⟩:=y;simp only at af ag;have O:=λ(x:qt wr)=>qc (H.o.trans x.h) an.o
   have ao:=λx=>β0 (O x);have ap:=λx=>β1 (O x);clear O
   obtain⟨c,U⟩:=ν (decide (((d,G):Og)=(aa,ab)));have am:=λw=>Ea d G aa ab w
   rw[U] at am;have ac:=κ U;clear U
   go_upto_region 4 with fail
   refine Qn wr 6 6 [] ?_
   refine Qq6 ?_
   refine qA ?_;clear ao ap af ag am;have ae:=κ (qa.drewN wr 1);cases c with
   | true=>
    have e:((d,G):Og)=(aa,ab):=of_decide_eq_true ac.o;have au:Hid ((d,G)∈L):=κ (by rw[e];exact aq.o);clear e;go_wp2;go_ret;exact⟨j,⟨λ_=>au.o,λ_=>by omega⟩,τ,rfl,I.o.trans (H.o.trans ae.o)⟩
   | false=>
    go_wp2;go_roundw
    case rel=>exact⟨j+1,τ,by go_num,by rw[ar.o,List.mem_append,List.mem_singleton];exact λh=>h.elim ad.o (of_decide_eq_false ac.o),H.o.trans ae.o⟩
    case measure=>simp[intOf];omega
  ·obtain rfl:j=L.length:=by omega
   have ay: ¬(L.length:Int)<(L.length:Int):=by omega
   go_wp2;go_ret;refine⟨-1,⟨λh=>by omega,λh=> ?_⟩,τ,rfl,I.o.trans H.o⟩;have:=ad.o;rw[List.take_length] at this;exact absurd h this
theorem MH {w:World} {H:Option Addr} {cap:Nat} {L:List Og} (d G:Int) (h:JQ w H L):
  Calls prog 72 #[δ H L.length cap,θ #[ι d,ι G]] w λe w'=>e= .returned (μ (decide ((d,G)∈L)))/\qa w w':=by
 have I:=κ (qj w (.cells #[ι d,ι G] 37));have aa:=β0 I.o;have ab:=β1 I.o;have O:=κ (Lt (w:=w.alloc (.cells #[ι d,ι G] 37)) (cap:=cap) d G (⟨h.1,λw' m=>h.2 w' ((qa.alloc _ _).trans m)⟩:JQ _ H L));clear h
 go_enter func72,ntmps72
 go_wp2_with (go_at_call 118;(go_call O.o as e w2 ⟨n,J,ac,rfl,N⟩;have U:=κ J;have Y:=κ N;clear J N))
 go_ret;exact⟨qZ (by rw[Bool.eq_iff_iff];simp only[decide_eq_true_eq];exact U.o),(qa.alloc _ _).trans Y.o⟩
end Go.Proofs.YtlmllmonabafjaaGreatDoor
