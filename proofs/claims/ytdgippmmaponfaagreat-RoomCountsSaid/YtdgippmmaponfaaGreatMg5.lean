/- Contracts of the functions that the law reaches, and plain laws; no conditions but those written at each. -/
import Derived.Test.YtdgippmmaponfaaGreatMg4
namespace Go.Proofs.YtdgippmmaponfaaGreat
open Go.Value renaming bool->μ,slice->δ,pointer->π,agg->θ
open Go.IntKind renaming i64->ι,u8->υ,u16->φ,u32->ω,i32->χ,u64->ψ
set_option linter.unusedSimpArgs false
set_option maxHeartbeats 8000000
set_option linter.unusedVariables false
open Go.RowKit
set_option maxRecDepth 100000
structure LnB where
 L:Nat
 R1:Nat
 A1:Nat
 R2:Nat
 A2:Nat
 R3:Nat
 A3:Nat
def LnB.muts (k:LnB) (b:Nat):Prop:=b=k.L∨RgB k.R1 k.A1 b∨RgB k.R2 k.A2 b∨RgB k.R3 k.A3 b
def jQ (k:LnB) (vo:Value) (s:LnS):Array Value:=
 #[vo,.pointer (some ⟨k.R1,0,none⟩),.pointer (some ⟨k.R2,0,none⟩),.pointer (some ⟨k.R3,0,none⟩),.bool s.wanted,.int .i64 s.cur,.int .i64 s.tgt,
  .int .u32 s.rw.src,.int .u16 s.rw.sq,.int .u32 s.rw.st,.bool s.rw.any,.int .u32 s.rw.last,.int .u32 s.rw.shift,.int .i64 s.most,.int .i64 s.row,.bool s.gone]
def lnD (N:Nat->Prop) (k:LnB) (b:Nat):Prop:=N b->k.muts b
def lnE (N:Nat->Prop) (k:LnB) (vo:Value) (b:Nat):Prop:=lnD N k b∨vo.ownBlock=some b
def lnM (k:LnB) (vo:Value) (b:Nat):Prop:=k.muts b∨vo.ownBlock=some b
def xf (N:Nat->Prop) (w w':World) (b:Nat):Prop:=N b∨(w.heap.size<=b/\b<w'.heap.size)
structure KM (s:LnS):Prop where
 most:1<=s.most/\s.most<=10
 row:0<=s.row/\s.row<=s.most
 lt:s.gone=false->s.row<s.most
 sq:U16 s.rw.sq
 src:U32 s.rw.src
structure LnX (N:Nat->Prop) (w:World) (k:LnB) (vo:Value) (s:LnS):Prop where
 own: ∀b,N b->b<w.heap.size
 muts: ∀b,k.muts b->N b
 dist:(k.L≠k.R1/\k.L≠k.A1/\k.L≠k.R2/\k.L≠k.A2/\k.L≠k.R3/\k.L≠k.A3)/\(k.R1≠k.A1/\k.R1≠k.R2/\k.R1≠k.A2/\k.R1≠k.R3/\k.R1≠k.A3)/\(k.A1≠k.R2/\k.A1≠k.A2/\k.A1≠k.R3/\k.A1≠k.A3)/\(k.R2≠k.A2/\k.R2≠k.R3/\k.R2≠k.A3)/\(k.A2≠k.R3/\k.A2≠k.A3)/\k.R3≠k.A3
 blk:w.heap[k.L]? =some (.cells (jQ k vo s) 184 (0,0))
 r1:RgR 13 289 218 RIt (lnE N k vo) w k.R1 k.A1 s.room s.A
 r2:RgR 14 292 220 RCh (lnE N k vo) w k.R2 k.A2 s.room s.B
 r3:RgR 2 294 107 ROu (lnE N k vo) w k.R3 k.A3 s.room s.C
 o:je 2 ROu (lnD N k) w 0 107 vo s.W
 ok:KM s
def zw (N:Nat->Prop) (w:World) (L:Nat) (s:LnS):Prop:= ∃k vo,k.L=L/\LnX N w k vo s
section
variable {N:Nat->Prop} {w w':World} {k:LnB} {vo vo':Value} {s s':LnS}
theorem LnX.vob (h:LnX N w k vo s) {b:Nat} (d:vo.ownBlock=some b):N b/\ ¬k.muts b:=by
 have:=h.o.apart b d;unfold lnD at this;exact Classical.not_imp.1 this
theorem LnX.inN (h:LnX N w k vo s) {b:Nat} (d:lnM k vo b):N b:=by
 rcases d with e | e
 ·exact h.muts b e
 ·exact(h.vob e).1
theorem Mc {b:Nat} (d:lnM k vo b):lnE N k vo b:=by
 rcases d with e | e
 ·exact Or.inl λ_=>e
 ·exact Or.inr e
theorem kZ {b:Nat} (d:k.muts b):lnE N k vo b:=Or.inl λ_=>d
theorem LnX.away (h:LnX N w k vo s) {S:Nat->Prop} (a:qg S w w') (I: ∀b,S b-> ¬N b):LnX N w' k vo s:=by
 have G: ∀b,k.muts b-> ¬S b:=λb d H=>I b H (h.muts b d)
 have J: ∀b,S b->lnE N k vo b:=λb H=>Or.inl λM=>absurd M (I b H)
 refine⟨λb d=>Nat.lt_of_lt_of_le (h.own b d) a.size,h.muts,h.dist,a.blk h.blk (G _ (Or.inl rfl)), ?_, ?_, ?_, ?_,h.ok⟩
 ·exact h.r1.step a (G _ (Or.inr (Or.inl (Or.inl rfl)))) (G _ (Or.inr (Or.inl (Or.inr rfl)))) J (λb d=>Or.inl d)
 ·exact h.r2.step a (G _ (Or.inr (Or.inr (Or.inl (Or.inl rfl))))) (G _ (Or.inr (Or.inr (Or.inl (Or.inr rfl))))) J (λb d=>Or.inl d)
 ·exact h.r3.step a (G _ (Or.inr (Or.inr (Or.inr (Or.inl rfl))))) (G _ (Or.inr (Or.inr (Or.inr (Or.inr rfl))))) J (λb d=>Or.inl d)
 ·exact h.o.step (a.mono λb H M=>absurd M (I b H))
theorem LnX.on (h:LnX N w k vo s) (m:qa w w'):LnX N w' k vo s:=h.away (S:=λ_=>False) (qg.of_more m) (λ_ e=>e.elim)
theorem zw.away {L:Nat} (h:zw N w L s) {S:Nat->Prop} (a:qg S w w') (d: ∀b,S b-> ¬N b):zw N w' L s:=by
 obtain⟨k,vo,e,x⟩:=h;exact⟨k,vo,e,x.away a d⟩
theorem zw.on {L:Nat} (h:zw N w L s) (m:qa w w'):zw N w' L s:=by
 obtain⟨k,vo,e,x⟩:=h;exact⟨k,vo,e,x.on m⟩
theorem xE (h: ∀b,N b->b<w.heap.size) (G: ∀b,vo'.ownBlock=some b->vo.ownBlock=some b∨w.heap.size<=b) {b:Nat} (H:lnE (xf N w w') k vo' b):lnE N k vo b:=by
 rcases H with e | e
 ·exact Or.inl λd=>e (Or.inl d)
 ·rcases G b e with e1 | e1
  ·exact Or.inr e1
  ·exact Or.inl λd=>by have:=h b d;omega
theorem EP {b:Nat} (G:lnD (xf N w w') k b):lnD N k b:=λd=>G (Or.inl d)
theorem LnX.held {α:Type} {R:qL α} {c:List Value} {y:α} (h:LnX N w k vo s) (d:jw R (lnE N k vo) w c y) (a:qg (lnM k vo) w w') (G: ∀b,vo'.ownBlock=some b->vo.ownBlock=some b∨w.heap.size<=b):jw R (lnE (xf N w w') k vo') w' c y:=
 (d.step (a.mono λ_=>Mc)).other λ_ H=>Or.inl (xE h.own G H)
theorem LnX.rows (h:LnX N w k vo s) (a:qg k.muts w w'):je 2 ROu (lnD (xf N w w') k) w' 0 107 vo s.W:=by
 have H:=h.o.step (a.mono λb d _=>d);obtain⟨⟨xs,o,r⟩,G⟩:=H;refine⟨⟨xs,o,λi hi=>(r i hi).other λb d=>Or.inl (xE h.own (λ_ e=>Or.inl e) d)⟩,λb d I=>G b d (EP I)⟩
theorem LnX.make (h:LnX N w k vo s) (G:w.heap.size<=w'.heap.size)
  (O:w'.heap[k.L]? =some (.cells (jQ k vo' s') 184 (0,0)))
  (H:RgR 13 289 218 RIt (lnE (xf N w w') k vo') w' k.R1 k.A1 s'.room s'.A)
  (M:RgR 14 292 220 RCh (lnE (xf N w w') k vo') w' k.R2 k.A2 s'.room s'.B)
  (I:RgR 2 294 107 ROu (lnE (xf N w w') k vo') w' k.R3 k.A3 s'.room s'.C)
  (J:je 2 ROu (lnD (xf N w w') k) w' 0 107 vo' s'.W) (U:KM s'):LnX (xf N w w') w' k vo' s':=
 ⟨λb d=>by
  rcases d with e | e
  ·exact Nat.lt_of_lt_of_le (h.own b e) G
  ·exact e.2,λb d=>Or.inl (h.muts b d),h.dist,O,H,M,I,J,U⟩
theorem LnX.grow (h:LnX N w k vo s) (m:qa w w'):LnX (xf N w w') w' k vo s:=by
 have G:=h.on m;have a:qg (λ_=>False) w w':=qg.of_more m;have d: ∀b,lnE (xf N w w') k vo b->lnE N k vo b∨w'.heap.size<=b:=λb H=>Or.inl (xE h.own (λ_ e=>Or.inl e) H)
 exact h.make m.size G.blk (h.r1.step a (λe=>e) (λe=>e) (λ_ e=>e.elim) d) (h.r2.step a (λe=>e) (λe=>e) (λ_ e=>e.elim) d) (h.r3.step a (λe=>e) (λe=>e) (λ_ e=>e.elim) d) (h.rows (qg.of_more m)) h.ok
end
section
open _root_.Go.Proofs.Tryz
theorem Iz {P:Program} {H:Func} {p:Tmp} {d:TypeId} (h:H.results= #[.cell p d]) (tmps:Array Value) (w:World) (g:Nat) (t:TypeId) (cs:Array Value) (G:TypeDesc)
  (J:tmps.getD p undef= γ g) (M:w.heap[g]? =some (.cells cs t (0,0)))
  (O:P.underlying d=some G) (I:(match G with | .struct _ | .array _ _=>true | _=>false)=true) (hi:(P.info? d).map (·.size)=some cs.size):
  (results H tmps).run P w= .ok (θ cs) w:=by
 have N:tmps[p]?.getD undef= γ g:=by simpa using J
 simp[results,h,N,asAddr,run_loadVar_row w g t d cs (0,0) G M O I hi]
section
variable {N:Nat->Prop} {w:World} {k:LnB} {vo:Value} {s:LnS}
theorem gF (h:LnX N w k vo s):Calls prog 69 #[γ k.L] w λe w'=>e= .returned (μ s.gone)/\qa w w':=by
 have d:w.cell? ⟨k.L,15,none⟩=some (μ s.gone):=qb h.blk 15 rfl;clear h
 go_enter func69,ntmps69
 go_wp2;go_ret;exact⟨rfl,ρ⟩
theorem WV (h:LnX N w k vo s) {w':World} (m:qa w w'):Calls prog 102 #[γ k.R1] w' λe w''=>e= .returned (ι s.A.length)/\w''=w':=by
 obtain⟨f,q,J,I,M,H,css,d,G⟩:=(h.on m).r1;rw[<-G.len];exact Ni d
theorem WU (h:LnX N w k vo s) {w':World} (m:qa w w'):Calls prog 104 #[γ k.R2] w' λe w''=>e= .returned (ι s.B.length)/\w''=w':=by
 obtain⟨f,q,J,I,M,H,css,d,G⟩:=(h.on m).r2;rw[<-G.len];exact Nj d
theorem WT (h:LnX N w k vo s) {w':World} (m:qa w w'):Calls prog 105 #[γ k.R3] w' λe w''=>e= .returned (ι s.C.length)/\w''=w':=by
 obtain⟨f,q,J,I,M,H,css,d,G⟩:=(h.on m).r3;rw[<-G.len];exact Nh d
theorem Cj (h:LnX N w k vo s) {w':World} (m:qa w w'):Calls prog 103 #[γ k.R2] w' λe w''=>e= .returned (μ (decide (s.B.length=s.room)))/\qa w' w'':=by
 obtain⟨f,q,J,I,M,H,css,d,G⟩:=(h.on m).r2;rw[<-G.len];refine(Hf d).mono ?_;rintro e w'' ⟨rfl,n,rfl⟩;exact⟨rfl,(qa.refl _).dr n⟩
theorem YA (h:LnX N w k vo s):Calls prog 64 #[γ k.L,ι 1] w λe w'=>e= .returned (μ (vC s 1))/\qa w w':=by
 have c1:w.cell? ⟨k.L,1,none⟩=some (π (some ⟨k.R1,0,none⟩)):=qb h.blk 1 rfl;have c2:w.cell? ⟨k.L,2,none⟩=some (π (some ⟨k.R2,0,none⟩)):=qb h.blk 2 rfl;have M:vC s 1=(decide (0<s.A.length)&&decide (¬s.B.length=s.room)):=rfl;have J:=κ (WV h (qa.refl w));have I:=κ (Cj h (qa.refl w));rw[M];clear h M;obtain⟨b,G⟩:=ν (decide (s.B.length=s.room));rw[G] at I;have O:decide (¬s.B.length=s.room)= !b:=by rw[<-G];simp
 rw[O];clear G O;by_cases hl:0<s.A.length
 ·have U:(0:Int)<(s.A.length:Int):=by omega
  have d:decide (0<s.A.length)=true:=by simp;omega
  rw[d]
  go_enter func64,ntmps64
  go_wp2_with (first | (go_at_call 102;(go_call J.o as e w1 ⟨rfl,rfl⟩)) | (go_at_call 103;(go_call I.o as e w2 ⟨rfl,H⟩)))
  all_goals (go_ret;first | exact⟨η,H⟩ | exact⟨η,qa.refl _⟩)
 ·have U: ¬(0:Int)<(s.A.length:Int):=by omega
  have d:decide (0<s.A.length)=false:=decide_eq_false hl;rw[d]
  go_enter func64,ntmps64
  go_wp2_with (first | (go_at_call 102;(go_call J.o as e w1 ⟨rfl,rfl⟩)) | (go_at_call 103;(go_call I.o as e w2 ⟨rfl,H⟩)))
  all_goals (go_ret;first | exact⟨η,H⟩ | exact⟨η,qa.refl _⟩)
theorem Yz (h:LnX N w k vo s):Calls prog 64 #[γ k.L,ι 2] w λe w'=>e= .returned (μ (vC s 2))/\qa w w':=by
 have c2:w.cell? ⟨k.L,2,none⟩=some (π (some ⟨k.R2,0,none⟩)):=qb h.blk 2 rfl;have d:vC s 2=decide (0<s.B.length):=rfl;have G:=κ (WU h (qa.refl w));rw[d];clear h d
 go_enter func64,ntmps64
 go_wp2_with (go_at_call 104;(go_call G.o as e w1 ⟨rfl,rfl⟩))
 go_ret;exact⟨η,qa.refl _⟩
theorem Jy (h:LnX N w k vo s):Calls prog 64 #[γ k.L,ι 3] w λe w'=>e= .returned (μ (vC s 3))/\qa w w':=by
 have c3:w.cell? ⟨k.L,3,none⟩=some (π (some ⟨k.R3,0,none⟩)):=qb h.blk 3 rfl;have d:vC s 3=decide (0<s.C.length):=rfl;have G:=κ (WT h (qa.refl w));rw[d];clear h d
 go_enter func64,ntmps64
 go_wp2_with (go_at_call 105;(go_call G.o as e w1 ⟨rfl,rfl⟩))
 go_ret;exact⟨η,qa.refl _⟩
theorem ER (h:LnX N w k vo s):Calls prog 68 #[γ k.L] w λe w'=>e= .returned (θ #[ι s.A.length,ι s.B.length,ι s.C.length])/\qa w w':=by
 have H:=κ h;clear h
 go_enter func68,ntmps68
 go_wp2;obtain⟨W1,I⟩:=ν (w.alloc (.cells #[ι 0,ι 0,ι 0] 72));have G:Hid (qa w W1):=κ (by rw[<-I];exact qa.alloc _ _);have M:Hid (W1.heap[w.heap.size]? =some (.cells #[ι 0,ι 0,ι 0] 72 (0,0))):=κ (by rw[<-I];exact qj w _);rw[I];clear I;have J:=λ(x:qt W1)=>qc (G.o.trans x.h) H.o.blk
 have c1:=λx=>β1 (J x);have c2:=λx=>β2 (J x);have c3:=λx=>β3 (J x);clear J
 refine zC W1 16 [(0,false),(1,false),(2,false),(3,false),(5,false),(6,false),(7,false),(8,false),(10,false),(11,false),(12,false),(13,false),(4,true),(9,true),(14,true),(15,false),(16,true)] ξ ξ ?_
 refine Qq ?_
 (refine Ql ?_;intro K d)
 go_call WV H.o (G.o.dr 1) as e w2 ⟨rfl,rfl⟩;refine⟨_,rfl,qk ρ,d _ _ ?_⟩;clear d K
 (refine Ql ?_;intro K d)
 go_call WU H.o (G.o.dr 1) as e w2 ⟨rfl,rfl⟩;refine⟨_,rfl,qk ρ,d _ _ ?_⟩;clear d K
 (refine Ql ?_;intro K d)
 go_call WT H.o (G.o.dr 1) as e w2 ⟨rfl,rfl⟩;refine⟨_,rfl,qk ρ,d _ _ ?_⟩;clear d K
 refine Qq ?_
 refine zY rfl rfl ζ ?_;intro K d;refine jr 72 (.tmp 2) (.tmp 18) rfl w.heap.size 72 _ #[ι s.A.length,ι s.B.length,ι s.C.length] rfl rfl (qr M.o 1) ξ rfl (all_oneCell_toArray (by simp[Value.oneCell'])) ?_;refine⟨trivial, ?_⟩;go_simp;refine d _ _ ?_;clear d K;refine qA ?_;go_wp2;refine bodyPost_ret (v:= θ #[ι s.A.length,ι s.B.length,ι s.C.length]) (Iz results68 _ _ w.heap.size 72 #[ι s.A.length,ι s.B.length,ι s.C.length] _ rfl (jY (qr M.o 1) _) underlying72 rfl ξ) rfl ?_;exact⟨rfl,(xb _ _ _).to_more (G.o.dr 1) (λk e=>by rw[e];exact Nat.le_refl _)⟩
theorem AJ (h:LnX N w k vo s):Calls prog 67 #[γ k.L] w λe w'=>e= .returned (.tuple #[θ #[ι s.cur,ι s.tgt],s.wanted])/\qa w w':=by
 have J:=κ h;have aa:k.L<w.heap.size:=qn h.blk;clear h
 go_enter func67,ntmps67
 go_wp2;obtain⟨W1,H⟩:=ν (w.alloc (.cells #[ι 0,ι 0] 71));have I:Hid (qa w W1):=κ (by rw[<-H];exact qa.alloc _ _);have O:Hid (W1.heap[w.heap.size]? =some (.cells #[ι 0,ι 0] 71 (0,0))):=κ (by rw[<-H];exact qj w _);rw[H];clear H;have ab:=λ(x:qz (λb=>b=w.heap.size) W1)=>β4 (x.h.blk (qc I.o J.o.blk) τ)
 have Y: ∀x:qz (λb=>b=w.heap.size) W1,x.w'.rangeAt k.L 5 [ι s.cur,ι s.tgt]:=λx j v G=>by
  have M:=x.h.blk (qc I.o J.o.blk) (show ¬k.L=w.heap.size by omega)
  match j,G with
  | 0,G=>exact qb M 5 G
  | 1,G=>exact qb M 6 G
 refine QN (λb=>b=w.heap.size) W1 10 10 [8] ?_
 iterate 3 (refine qE rfl rfl (qi σ) ?_;intro K d;go_big_quiet_op;go_big_quiet_on)
 refine jh rfl rfl (qi σ) 71 (.tmp 6) rfl k.L 5 rfl [ι s.cur,ι s.tgt] _ (λw' U=>by obtain⟨x,rfl⟩:=U;exact Y x) underlying71 rfl ξ ?_;intro K d;go_simp;refine d _ ?_;clear d K
 refine Qs ?_
 refine jR rfl rfl ?_;intro K d;refine jr 71 (.tmp 2) (.tmp 7) rfl w.heap.size 71 _ #[ι s.cur,ι s.tgt] rfl rfl (qr O.o 1) ξ rfl (all_oneCell_toArray (by simp[Value.oneCell'])) ?_;refine⟨qi (((qg.refl (λb=>b=w.heap.size) W1).drewN 1).row (g:=w.heap.size) rfl _), ?_⟩;go_simp;refine d _ _ ?_;clear d K
 iterate 1 (refine qE rfl rfl (qi (((qg.refl (λb=>b=w.heap.size) W1).drewN 1).row (g:=w.heap.size) rfl _)) ?_;intro K d;go_big_quiet_op;go_big_quiet_on)
 refine qA ?_;go_wp2;refine bodyPost_ret (v:= .tuple #[θ #[ι s.cur,ι s.tgt],s.wanted]) (yo results67 _ _ w.heap.size 71 #[ι s.cur,ι s.tgt] _ _ rfl rfl (jY (qr O.o 1) _) underlying71 rfl ξ) rfl ?_;exact⟨rfl,(xb _ _ _).to_more (I.o.dr 1) (λk e=>by rw[e];exact Nat.le_refl _)⟩
end
end
section
open _root_.Go.Proofs.Tryz
section
variable {N:Nat->Prop} {w w':World} {k:LnB} {vo:Value} {s s':LnS}
theorem LnX.setL (h:LnX N w k vo s) (a:qg (λb=>b=k.L) w w') (ad:w'.heap[k.L]? =some (.cells (jQ k vo s') 184 (0,0)))
  (e:s'.room=s.room/\s'.A=s.A/\s'.B=s.B/\s'.C=s.C/\s'.W=s.W) (Y:KM s'):LnX (xf N w w') w' k vo s':=by
 obtain⟨⟨ab,ae,ac,U,M,af⟩,_⟩:=h.dist;obtain⟨I,J,aa,ag,O⟩:=e;have H: ∀b,b=k.L->lnE N k vo b:=λb d=>kZ (Or.inl d)
 have G: ∀b,lnE (xf N w w') k vo b->lnE N k vo b∨w'.heap.size<=b:=λb d=>Or.inl (xE h.own (λ_ e=>Or.inl e) d)
 refine h.make a.size ad ?_ ?_ ?_ ?_ Y
 ·rw[I,J];exact h.r1.step a (Ne.symm ab) (Ne.symm ae) H G
 ·rw[I,aa];exact h.r2.step a (Ne.symm ac) (Ne.symm U) H G
 ·rw[I,ag];exact h.r3.step a (Ne.symm M) (Ne.symm af) H G
 ·rw[O];exact h.rows (a.mono λb d=>Or.inl d)
theorem Ec (h:LnX N w k vo s) (n:Int):Calls prog 77 #[γ k.L,ι n] w λe w'=>e= .returned (ι (jO s n).2)/\LnX (xf N w w') w' k vo (jO s n).1/\qg N w w':=by
 have M:=κ h;have al:k.L<w.heap.size:=qn h.blk;cases ht:jj n with
 | false=>
  have Y:=κ ht;have J:jO s n=(s,1):=by unfold jO;rw[if_pos ht]
  rw[J];clear J ht h
  go_enter func77,ntmps77
  go_wp2_with (go_at_call 117;(go_call xX n _ as e w1 ⟨rfl,rfl⟩;rw[Y.o]))
  go_ret;exact⟨rfl,M.o.grow (qa.refl _),qg.refl _ _⟩
 | true=>
  have Y:=κ ht;cases hg:s.gone with
  | true=>
   have J:jO s n=(s,7):=by unfold jO;rw[if_neg (by rw[ht];decide),if_pos hg]
   have O:=gF h;rw[hg] at O;have O:=κ O;rw[J];clear J ht h hg
   go_enter func77,ntmps77
   go_wp2_with (first | (go_at_call 117;(go_call xX n _ as e w1 ⟨rfl,rfl⟩;rw[Y.o])) | (go_at_call 69;(go_call O.o as e w2 ⟨rfl,I⟩;have ab:=κ I;clear I)))
   go_ret;exact⟨rfl,M.o.grow ab.o,qg.of_more ab.o⟩
  | false=>
   have J:jO s n=({s with wanted:=true,cur:=if s.wanted then s.cur else -1,tgt:=n},0):=by unfold jO;rw[if_neg (by rw[ht];decide),if_neg (by rw[hg];decide)]
   have O:=gF h;rw[hg] at O;have O:=κ O;rw[J];clear J ht h hg;cases hw:s.wanted with
   | true=>
    have af:=κ hw;clear hw
    go_enter func77,ntmps77
    go_wp2_with (first | (go_at_call 117;(go_call xX n _ as e w1 ⟨rfl,J⟩;subst w1;rw[Y.o])) | (go_at_call 69;(go_call O.o as e w2 ⟨rfl,I⟩;have ab:=κ I;have U:=κ (qc I M.o.blk);clear I;have ae:w2.cell? ⟨k.L,4,none⟩=some (μ true):=(by rw[<-af.o];exact qb U.o 4 rfl);have ac:w2.cell? ⟨k.L,5,none⟩=some (ι s.cur):=qb U.o 5 rfl;have ad:w2.cell? ⟨k.L,6,none⟩=some (ι s.tgt):=qb U.o 6 rfl)) | (go_at_call 118;(go_call QT s.cur s.tgt n Y.o _ as e d ⟨rfl,aa⟩;have ag:Hid (qa w d):=κ (ab.o.trans aa);have G:=κ (qc aa U.o);clear aa;have ac:d.cell? ⟨k.L,5,none⟩=some (ι s.cur):=qb G.o 5 rfl;have ad:d.cell? ⟨k.L,6,none⟩=some (ι s.tgt):=qb G.o 6 rfl;have ae:d.cell? ⟨k.L,4,none⟩=some (μ s.wanted):=qb G.o 4 rfl;have ai:d.frozen? ⟨k.L,4,none⟩=false:=qd G.o 4;have ak:d.frozen? ⟨k.L,5,none⟩=false:=qd G.o 5;have aj:d.frozen? ⟨k.L,6,none⟩=false:=qd G.o 6)))
    go_ret;have A:qg (λb=>b=k.L) w (((d.setCell ⟨k.L,5,none⟩ (ι s.cur)).setCell ⟨k.L,6,none⟩ (ι n)).setCell ⟨k.L,4,none⟩ (μ true)):=(((qg.of_more (S:=λb=>b=k.L) ag.o).set (p:=⟨k.L,5,none⟩) rfl _).set (p:=⟨k.L,6,none⟩) rfl _).set (p:=⟨k.L,4,none⟩) rfl _;have H:=M.o.ok;exact⟨rfl,M.o.setL A (qB (qp (qp (qp G.o 5 _) 6 _) 4 _) (by rfl)) ⟨rfl,rfl,rfl,rfl,rfl⟩ ⟨H.most,H.row,H.lt,H.sq,H.src⟩,A.mono λb ah=>by rw[ah];exact M.o.muts _ (Or.inl rfl)⟩
   | false=>
    have af:=κ hw;clear hw
    go_enter func77,ntmps77
    go_wp2_with (first | (go_at_call 117;(go_call xX n _ as e w1 ⟨rfl,J⟩;subst w1;rw[Y.o])) | (go_at_call 69;(go_call O.o as e w2 ⟨rfl,I⟩;have ab:=κ I;have U:=κ (qc I M.o.blk);clear I;have ae:w2.cell? ⟨k.L,4,none⟩=some (μ false):=(by rw[<-af.o];exact qb U.o 4 rfl);have ac:w2.cell? ⟨k.L,5,none⟩=some (ι s.cur):=qb U.o 5 rfl;have ad:w2.cell? ⟨k.L,6,none⟩=some (ι s.tgt):=qb U.o 6 rfl)) | (go_at_call 119;(go_call YS n Y.o _ as e d ⟨rfl,aa⟩;have ag:Hid (qa w d):=κ (ab.o.trans aa);have G:=κ (qc aa U.o);clear aa;have ac:d.cell? ⟨k.L,5,none⟩=some (ι s.cur):=qb G.o 5 rfl;have ad:d.cell? ⟨k.L,6,none⟩=some (ι s.tgt):=qb G.o 6 rfl;have ae:d.cell? ⟨k.L,4,none⟩=some (μ s.wanted):=qb G.o 4 rfl;have ai:d.frozen? ⟨k.L,4,none⟩=false:=qd G.o 4;have ak:d.frozen? ⟨k.L,5,none⟩=false:=qd G.o 5;have aj:d.frozen? ⟨k.L,6,none⟩=false:=qd G.o 6)))
    go_ret;have A:qg (λb=>b=k.L) w (((d.setCell ⟨k.L,5,none⟩ (ι (-1))).setCell ⟨k.L,6,none⟩ (ι n)).setCell ⟨k.L,4,none⟩ (μ true)):=(((qg.of_more (S:=λb=>b=k.L) ag.o).set (p:=⟨k.L,5,none⟩) rfl _).set (p:=⟨k.L,6,none⟩) rfl _).set (p:=⟨k.L,4,none⟩) rfl _;have H:=M.o.ok;exact⟨rfl,M.o.setL A (qB (qp (qp (qp G.o 5 _) 6 _) 4 _) (by rfl)) ⟨rfl,rfl,rfl,rfl,rfl⟩ ⟨H.most,H.row,H.lt,H.sq,H.src⟩,A.mono λb ah=>by rw[ah];exact M.o.muts _ (Or.inl rfl)⟩
end
end
section
open _root_.Go.Proofs.Tryz
theorem Iu (m d H sq st:Int) (n:Nat) (Y:m=n) (O:1<=n) (ad:n<=8) (aj:1<=d) (af:d<=10) (au:U16 sq) (ax:U32 H) (w:World):Calls prog 74 #[θ #[ι m,ι d,ω H,φ sq,ω st]] w λe w'=> ∃L,e= .returned (.tuple #[γ L,ι 0])/\zw (λb=>w.heap.size<=b/\b<w'.heap.size) w' L (Vd n d H sq st)/\qa w w':=by
 have aJ:=κ (Pp m n Y O ad);have aM:=κ (Pq m n Y O ad);have aF:=κ (Po m n Y O ad);have aQ:=κ (Ka d aj af);have aG:Hid (KM (Vd n d H sq st)):=κ ⟨⟨aj,af⟩,⟨Int.le_refl _,(by show 0<=d;omega)⟩,λ_=>(by show 0<d;omega),au,ax⟩;clear Y O ad aj af au ax
 go_enter func74,ntmps74
 go_wp2_with (first | (go_at_call 112;(go_call aJ.o _ as e w1 ⟨rfl,aw,ah⟩;have aq:Hid (qN 13 289 218 w1 (w.heap.size+1+1) (w.heap.size+1) n 0 [] 0 0 0 0 (List.replicate n (Γa:List Value))):=κ (by simpa using aw);have ay:=κ (qc ah (qj w (.cells #[ι m,ι d,ω H,φ sq,ω st] 161)));have aS:Hid (qa w w1):=κ ((qa.alloc _ _).trans ah);clear ah aw;have aP:w1.cell? ⟨w.heap.size,0,none⟩=some (ι m):=qb ay.o 0 rfl)) | (go_at_call 113;(go_call aM.o _ as e w2 ⟨rfl,ar,ae⟩;have aC:=κ ar;have ao:=κ (qc ae ay.o);have az:Hid (qa w1 w2):=κ ae;clear ae ar;have aP:w2.cell? ⟨w.heap.size,0,none⟩=some (ι m):=qb ao.o 0 rfl)) | (go_at_call 114;(go_call aF.o _ as e ab ⟨rfl,aA,ai⟩;have an:=κ aA;have aB:=κ (qc ai ao.o);have ag:Hid (qa w2 ab):=κ ai;clear ai aA;have c1:ab.cell? ⟨w.heap.size,1,none⟩=some (ι d):=qb aB.o 1 rfl)) | (go_at_call 115;(go_call aQ.o _ as e w4 ⟨rfl,am⟩;have aE:Hid (qa ab w4):=κ am;have aI:=κ (qc am aB.o);clear am)))
 obtain⟨I,U⟩:=ν (w4.alloc (.cells #[ι d,ι 0,false] 182));have ap:Hid (qa w4 I):=κ (by rw[<-U];exact qa.alloc _ _);have aK:=κ (qc ap.o aI.o);have aR:Hid (I.heap[w4.heap.size]? =some (.cells #[ι d,ι 0,false] 182 (0,0))):=κ (by rw[<-U];exact qj w4 _);rw[U];clear U;have aa:=λ(x:qt I)=>qc x.h aK.o
 have c2:=λx=>β2 (aa x);have c3:=λx=>β3 (aa x);have aU:=λx=>β4 (aa x);clear aa
 have aT: ∀x:qt I,x.w'.rangeAt w4.heap.size 0 [ι d,ι 0,false]:=λx=>xy (qc x.h aR.o)
 refine zC I 15 [(0,false),(1,false),(2,false),(3,false),(4,false),(5,false),(6,false),(7,false),(8,false),(10,false),(9,true),(11,false),(12,true),(13,false),(14,false)] ξ ξ ?_
 iterate 9 (refine qE rfl rfl (qk ρ) ?_;intro K G;go_big_quiet_op;go_big_quiet_on)
 refine jh rfl rfl (qk ρ) 182 (.tmp 8) rfl w4.heap.size 0 rfl [ι d,ι 0,false] _ (λw' aO=>by obtain⟨x,rfl⟩:=aO;exact aT x) underlying182 rfl ξ ?_;intro K G;go_simp;refine G _ ?_;clear G K
 (refine Ql ?_;intro K G)
 go_call Zf H sq st _ as e w6 ⟨rfl,av⟩;have J:Hid (qa I w6):=κ ((qa.drewN _ _).trans av);clear av;refine⟨_,rfl,qk J.o,G _ _ ?_⟩;clear G K
 iterate 1 (refine qE rfl rfl (qk J.o) ?_;intro K G;go_big_quiet_op;go_big_quiet_on)
 (refine Ql ?_;intro K G)
 refine⟨qk (J.o.al _),G _ _ ?_⟩;clear G K
 iterate 2 (refine qE rfl rfl (qk (J.o.al _)) ?_;intro K G;go_big_quiet_op;go_big_quiet_on)
 refine qA ?_;go_wp2;refine bodyPost_ret (v:= .tuple #[γ w6.heap.size,ι 0]) (by simp[results,results74,go_sem]) rfl ?_;obtain⟨W7,N⟩:=ν (w6.alloc (.cells #[δ none 0 0,γ (w.heap.size+1+1),γ (w1.heap.size+1),γ (w2.heap.size+1),false,ι 0,ι 0,ω H,φ sq,ω st,false,ω 0,ω 0,ι d,ι 0,false] 184));have aD:W7.heap[w6.heap.size]? =some (.cells (jQ ⟨w6.heap.size,w.heap.size+1+1,w.heap.size+1,w1.heap.size+1,w1.heap.size,w2.heap.size+1,w2.heap.size⟩ (δ none 0 0) (Vd n d H sq st)) 184 (0,0)):=by rw[<-N];exact qj w6 _
 have ac:qa w6 W7:=by rw[<-N];exact qa.alloc _ _
 have aX:w6.heap.size<W7.heap.size:=qn aD;rw[N];clear N;have M:qa ab w6:=(aE.o.trans ap.o).trans J.o;have aY:=qn aq.o.ring;have aV:=qn aC.o.ring;have z3:=qn an.o.ring;have aW:=M.size;have aL:=(aq.o.more ((az.o.trans ag.o).trans (M.trans ac)));have aN:=(aC.o.more (ag.o.trans (M.trans ac)));have aH:=(an.o.more (M.trans ac));refine⟨_,rfl,⟨⟨w6.heap.size,w.heap.size+1+1,w.heap.size+1,w1.heap.size+1,w1.heap.size,w2.heap.size+1,w2.heap.size⟩,δ none 0 0,rfl, ?_⟩,((aS.o.trans az.o).trans ag.o).trans (M.trans ac)⟩;refine⟨λb ak=>ak.2,λb ak=> ?_,by simp only;omega,aD,⟨_,_,_,_,_,_,_,aL,trivial⟩,⟨_,_,_,_,_,_,_,aN,trivial⟩,⟨_,_,_,_,_,_,_,aH,trivial⟩,je.nil 2 ROu _ W7 0 _,aG.o⟩;rcases ak with e | (e | e) | (e | e) | (e | e)<;>(simp only at e;subst e;constructor<;>omega)
end
section
open _root_.Go.Proofs.Tryz
theorem QU {P:Program} {C:World->Prop} {l:List Oper} {T:Nat} {Q:Act->World->Prop} {k:Nat} {o:Oper} {t:Tr} {a:Act} {w:World} (U:l[k]? =some o) (G:Region.wanted o (yielded l.toArray a.tmps)=true) (O:C w)
  (d:TypeId) (x:Operand) (J:o.op= .load d x) (b H:Nat) (aa:a.eval x= π (some ⟨b,H,none⟩)) (cs:List Value) (I:TypeDesc) (Y: ∀w,C w->w.rangeAt b H cs)
  (ab:P.underlying d=some I) (M:I.isRow=true) (hi:(P.info? d).map (·.size)=some cs.length)
  (h: ∀K:Act->Prop,(∀a,zk P l.toArray T C Q t a w->K a)->K (a.put o.dst (θ cs.toArray))):zk P l.toArray T C Q (.op k false t) a w:=
 qH U G O λK N=>⟨θ cs.toArray,λw G=>by
  unfold Oper.quietAt execOp;simp only[J,aa,Instr.loadAt,Instr.sureAddr,Sem.run_bind,Sem.run_pure,Result.andThen_ok,run_loadVar_mid w b H d cs I (Y w G) ab M hi]
  exact⟨rfl,rfl⟩,h K N⟩
theorem AH (c t n:Int) (k:Bool) (w:World):Calls prog 184 #[θ #[ι c,ι t],ι n,k] w λe w'=>e= .returned (.tuple #[θ #[ι (xJ c t n k).1,ι t],ι (xJ c t n k).2.1,μ (xJ c t n k).2.2])/\qa w w':=by
 by_cases h1:n=c
 ·have e:xJ c t n k=(c,0,false):=by unfold xJ;rw[if_pos h1]
  rw[e];exact Uo c t n k (by simp[h1]) (by simp[h1]) w
 ·by_cases h2:n=t
  ·cases k with
   | true=>
    have e:xJ c t n true=(n,0,true):=by unfold xJ;rw[if_neg h1,if_pos h2,if_pos rfl]
    rw[e];exact Up c t n true (by simp[h1]) (by simp[h2]) rfl w
   | false=>
    have e:xJ c t n false=(c,5,false):=by unfold xJ;rw[if_neg h1,if_pos h2,if_neg ζ]
    rw[e];exact V9 c t n false (by simp[h1]) (by simp[h1]) (by simp[h2]) rfl w
  ·have e:xJ c t n k=(c,4,false):=by unfold xJ;rw[if_neg h1,if_neg h2]
   rw[e];exact AG c t n k (by simp[h1]) (by simp[h1]) (by simp[h2]) w
section
variable {N:Nat->Prop} {w w':World} {k:LnB} {vo:Value} {s s':LnS}
theorem Y3 (h:LnX N w k vo s) (G:vC s 1=false):Calls prog 142 #[γ k.L] w λe w'=>e= .returned (.tuple #[ι 0,ι 0,false])/\qa w w':=by
 have d:=YA h;rw[G] at d;have d:=κ d;clear G h
 go_enter func142,ntmps142
 go_wp2_with (go_at_call 64;(go_call d.o as e w1 ⟨rfl,H⟩;have I:=κ H;clear H))
 refine bodyPost_ret (v:= .tuple #[ι 0,ι 0,false]) (by simp[results,results142,go_sem]) rfl ?_;exact⟨rfl,I.o⟩
theorem Zn (h:LnX N w k vo s) (aU:vC s 1=true) (x:ItS) (T:List ItS) (bZ:s.A=x::T) (ac f:Int) (am:Bool) (bh:xJ s.cur s.tgt x.layer x.key=(ac,f,am)) (z:Bool) (cf:(f==0)=z):
  Calls prog 142 #[γ k.L] w λe w'=>e= .returned (.tuple #[ι x.id,ι f,true])/\LnX (xf N w w') w' k vo {s with A:=T,cur:=ac,B:=if z then s.B++[(x,am)] else s.B}/\qg N w w':=by
 have H:=κ h;have aA:=YA h;rw[aU] at aA;have aA:=κ aA;have ap:=AH s.cur s.tgt x.layer x.key;rw[bh] at ap;have ap:=κ ap;have cv:s.B.length<s.room:=by
  have:=h.r2.fit.1;have bI:(decide (0<s.A.length)&&decide (¬s.B.length=s.room))=true:=aU;simp at bI;omega
 obtain⟨av,cn,aY,bD,aN,aO,bJ,aT,ba⟩:=h.r1;rw[bZ] at ba;obtain⟨c,q,rfl,aF,bm⟩:=ba.uncons;have AQ:=κ bm;obtain⟨cu,cq,vp,rfl,⟨⟨os,af,rfl,_⟩,⟨ae,ke,rfl,_⟩,⟨aj,ai,rfl,_⟩⟩,_,_⟩:=aF.read;unfold itC at aF aT;have bQ:=κ aF;have bT:=κ aT;have ad:=κ h.dist;clear h aU bh aT aF bm ba
 go_enter func142,ntmps142
 go_wp2_with (first | (go_at_call 64;(go_call aA.o as e w1 ⟨rfl,aw⟩;have cb:=κ aw;have bt:=κ (qc aw H.o.blk);have cl:Hid (w.heap.size<=w1.heap.size):=κ aw.size;have bR:=κ (bT.o.more aw);clear aw;have c1:w1.cell? ⟨k.L,1,none⟩=some (π (some ⟨k.R1,0,none⟩)):=qb bt.o 1 rfl)) | (go_at_call 183;(go_call Nb w1 k.R1 k.A1 s.room av _ q aY bD aN aO bJ bR.o as e w2 ⟨rfl,⟨aZ,ah⟩,ag⟩;have bq:=κ ah;have A2:Hid (qg (RgB k.R1 k.A1) w w2):=κ ((qg.of_more cb.o).trans ag);have bj:Hid (w2.heap[k.L]? =some (.cells (jQ k vo s) 184 (0,0))):=κ (ag.blk bt.o (by obtain⟨⟨Y,aa,_⟩,_⟩:=ad.o;rintro(e | e)<;>omega));clear ah ag)))
 obtain⟨J,aH⟩:=ν ((w2.alloc (.cells (Γj x os af ae ke aj ai) 218)));have ar:Hid (qa w2 J):=κ (by rw[<-aH];exact qa.alloc _ _);have aR:Hid (J.heap[w2.heap.size]? =some (.cells (Γj x os af ae ke aj ai) 218 (0,0))):=κ (by rw[<-aH];exact qj w2 _);have bc:=κ (qc ar.o bj.o);rw[aH];clear aH
 go_cut [7,8,9] from 21 (λbV bE bW bv=> ∃C,bV= γ C/\bE= ι f/\bW= μ am/\qa J bv/\bv.heap[C]? =some (.cells #[ι ac,ι s.tgt] 71 (0,0))/\J.heap.size<=C)
 case first=>
  have bN: ∀x:qt J,x.w'.rangeAt k.L 5 [ι s.cur,ι s.tgt]:=λx j v M=>by
   have d:=qc x.h bc.o
   match j,M with
   | 0,M=>exact qb d 5 M
   | 1,M=>exact qb d 6 M
  have cd: ∀y:qt J,y.w'.cell? ⟨w2.heap.size,1,none⟩=some (ι x.layer):=λy=>qb (qc y.h aR.o) 1 rfl
  have bg: ∀y:qt J,y.w'.cell? ⟨w2.heap.size,2,none⟩=some (μ x.key):=λy=>qb (qc y.h aR.o) 2 rfl
  refine zB J 17 (.op 0 false (.op 1 false (.op 2 false (.op 3 false (.op 4 false (.op 5 false (.op 6 false (.op 7 false (.br [8,13] λk=>if k=8 then .op 9 false (.op 10 false (.op 11 false (.op 12 false (.op 13 true (.op 14 true (.op 15 false (.op 16 false (.done)))))))) else .op 8 true (.op 9 false (.op 10 false (.op 11 false (.op 12 false (.op 14 true (.op 15 false (.op 16 false (.done))))))))))))))))) ξ ξ ?_
  iterate 3 (refine qH rfl rfl (qk ρ) ?_;intro K G;go_big_quiet_op;go_big_quiet_on)
  refine QU rfl rfl (qk ρ) 71 (.tmp 24) rfl k.L 5 rfl [ι s.cur,ι s.tgt] _ (λw' bf=>by obtain⟨y,rfl⟩:=bf;exact bN y) underlying71 rfl ξ ?_;intro K G;go_simp;refine G _ ?_;clear G K
  repeat (first | (refine jg rfl rfl (qk ρ) ?_) | (refine qH rfl rfl (qk ρ) ?_;intro K G;go_big_quiet_op;go_big_quiet_on))
  refine wP ζ ?_ ?_
  ·(refine qO rfl rfl ?_;intro K G;unfold jn;go_simp)
   go_call ap.o _ as e w5 ⟨rfl,ao⟩;have I:Hid (qa J w5):=κ ((qa.drewN _ 1).trans ao);clear ao;refine⟨_,rfl,qk I.o,G _ _ ?_⟩;clear G K
   repeat (first | (refine jg rfl rfl (qk I.o) ?_) | (refine qH rfl rfl (qk I.o) ?_;intro K G;go_big_quiet_op;go_big_quiet_on))
   (refine qO rfl rfl ?_;intro K G;unfold jn;go_simp)
   refine⟨qk (I.o.al _),G _ _ ?_⟩;clear G K
   (refine qO rfl rfl ?_;intro K G;unfold jn;go_simp)
   refine⟨qk (by repeat (first | exact I.o.al _ | refine qa.st ?_ (by have:=I.o.size;simp;omega) _)),G _ _ ?_⟩;clear G K
   repeat (first | (refine jg rfl rfl (qk (by repeat (first | exact I.o.al _ | refine qa.st ?_ (by have:=I.o.size;simp;omega) _))) ?_) | (refine qH rfl rfl (qk (by repeat (first | exact I.o.al _ | refine qa.st ?_ (by have:=I.o.size;simp;omega) _))) ?_;intro K G;go_big_quiet_op;go_big_quiet_on))
   refine zg ?_;go_wp2;go_meet;exact⟨_,rfl,rfl,rfl,I.o.al _,qj w5 _,I.o.size⟩
  ·(refine qO rfl rfl ?_;intro K G;unfold jn;go_simp)
   refine⟨qk ρ,G _ _ ?_⟩;clear G K
   (refine qO rfl rfl ?_;intro K G;unfold jn;go_simp)
   go_call ap.o _ as e w5 ⟨rfl,ao⟩;have I:Hid (qa J w5):=κ (((qa.drewN _ 1).al _).trans ao);have ax:Hid (w5.heap[J.heap.size]? =some (.cells #[ι 0,ι 0] 71 (0,0))):=κ (qc ao (qC rfl));clear ao;have bX:w5.cell? ⟨J.heap.size,0,none⟩=some (ι 0):=qb ax.o 0 rfl;have Y:w5.cell? ⟨J.heap.size,1,none⟩=some (ι 0):=qb ax.o 1 rfl;have e0:w5.frozen? ⟨J.heap.size,0,none⟩=false:=qd ax.o 0;have aE:w5.frozen? ⟨J.heap.size,1,none⟩=false:=qd ax.o 1;refine⟨_,rfl,qk I.o,G _ _ ?_⟩;clear G K
   repeat (first | (refine jg rfl rfl (qk I.o) ?_) | (refine qH rfl rfl (qk I.o) ?_;intro K G;go_big_quiet_op;go_big_quiet_on))
   (refine qO rfl rfl ?_;intro K G;unfold jn;go_simp)
   refine⟨qk ((I.o.st (Nat.le_refl _) _).st (Nat.le_refl _) _),G _ _ ?_⟩;clear G K
   repeat (first | (refine jg rfl rfl (qk ((I.o.st (Nat.le_refl _) _).st (Nat.le_refl _) _)) ?_) | (refine qH rfl rfl (qk ((I.o.st (Nat.le_refl _) _).st (Nat.le_refl _) _)) ?_;intro K G;go_big_quiet_op;go_big_quiet_on))
   refine zg ?_;go_wp2;go_meet;exact⟨_,rfl,rfl,rfl,(I.o.st (Nat.le_refl _) _).st (Nat.le_refl _) _,qB (qp (qp ax.o 0 _) 1 _) rfl,Nat.le_refl _⟩
 case rest=>
 obtain⟨C,rfl,rfl,rfl,aD,bw,co⟩:=hcut;have aK:=κ aD;have bn:=κ bw;have an:=κ (qc aD bc.o);have aX:=κ (qc aD aR.o);clear aD bw;have ci:k.L<C:=by have:=qn bc.o;omega
 have bX:wc.cell? ⟨C,0,none⟩=some (ι ac):=qb bn.o 0 rfl;have Y:wc.cell? ⟨C,1,none⟩=some (ι s.tgt):=qb bn.o 1 rfl;have cr:wc.cell? ⟨k.L,5,none⟩=some (ι s.cur):=qb an.o 5 rfl;have ct:wc.cell? ⟨k.L,6,none⟩=some (ι s.tgt):=qb an.o 6 rfl;have aM:wc.frozen? ⟨k.L,5,none⟩=false:=qd an.o 5;have cp:wc.frozen? ⟨k.L,6,none⟩=false:=qd an.o 6;have cm:wc.cell? ⟨w2.heap.size,0,none⟩=some (ι x.id):=qb aX.o 0 rfl;have aJ: ¬w2.heap.size=k.L:=by have:=qn bj.o;omega
 cases z
 ·go_wp2;refine bodyPost_ret (v:= .tuple #[ι x.id,ι f,true]) (by simp[results,results142,go_sem]) rfl ?_;obtain⟨W6,O⟩:=ν ((wc.setCell ⟨k.L,5,none⟩ (ι ac)).setCell ⟨k.L,6,none⟩ (ι s.tgt));have aB:Hid (qg (λb=>b=k.L∨RgB k.R1 k.A1 b) w W6):=κ (by rw[<-O];exact((((A2.o.mono (S':=λb=>b=k.L∨RgB k.R1 k.A1 b) λb d=>Or.inr d).more (ar.o.trans aK.o)).set (p:=⟨k.L,5,none⟩) (Or.inl rfl) _).set (p:=⟨k.L,6,none⟩) (Or.inl rfl) _));have aG:Hid (W6.heap[k.L]? =some (.cells (jQ k vo {s with A:=T,cur:=ac}) 184 (0,0))):=κ (by rw[<-O];exact qB (qp (qp an.o 5 _) 6 _) rfl);have aV:Hid (W6.heap[w2.heap.size]? =some (.cells (Γj x os af ae ke aj ai) 218 (0,0))):=κ (by rw[<-O];exact qo (qo aX.o ⟨k.L,5,none⟩ _ aJ) ⟨k.L,6,none⟩ _ aJ)
  have aP:Hid (qN 13 289 218 W6 k.R1 k.A1 s.room ((av+1)%s.room) q aY _ aN aO _):=κ (by
   obtain⟨⟨Y,aa,_⟩,_⟩:=ad.o;rw[<-O]
   exact((bq.o.more (ar.o.trans aK.o)).away (S:=λb=>b=k.L) (((qg.refl (λb=>b=k.L) wc).set (p:=⟨k.L,5,none⟩) rfl _).set (p:=⟨k.L,6,none⟩) rfl _) (Ne.symm Y) (Ne.symm aa)))
  rw[O];clear O;have ak:qg (λb=>b=k.L∨RgB k.R1 k.A1 b) w W6:=aB.o;obtain⟨⟨Y,aa,aI,az,bd,aQ⟩,⟨aE,aW,aS,bb,aM⟩,⟨bO,bB,bC,bU⟩,⟨bY,bL,bF⟩,⟨bS,bG⟩,_⟩:=ad.o;have ab:qg k.muts w W6:=ak.mono λb d=>by rcases d with e | e;exact Or.inl e;exact Or.inr (Or.inl e)
  have ay:qg (lnM k vo) w W6:=ab.mono λb d=>Or.inl d
  have M: ∀b,vo.ownBlock=some b->vo.ownBlock=some b∨w.heap.size<=b:=λb d=>Or.inl d
  have aL: ∀b,(λb=>b=k.L∨RgB k.R1 k.A1 b) b->lnE N k vo b:=λb d=>kZ (by rcases d with e | e;exact Or.inl e;exact Or.inr (Or.inl e))
  have U:=H.o.ok;exact⟨rfl,H.o.make ab.size aG.o ⟨_,_,_,_,_,_,_,aP.o,AQ.o.mono λc y au=>H.o.held au ay M⟩ (H.o.r2.step ak (by rintro(e | e | e)<;>omega) (by rintro(e | e | e)<;>omega) aL λb d=>Or.inl (xE H.o.own M d)) (H.o.r3.step ak (by rintro(e | e | e)<;>omega) (by rintro(e | e | e)<;>omega) aL λb d=>Or.inl (xE H.o.own M d)) (H.o.rows ab) ⟨U.most,U.row,U.lt,U.sq,U.src⟩,ab.mono λb d=>H.o.muts b d⟩
 ·go_wp2;obtain⟨W6,O⟩:=ν ((wc.setCell ⟨k.L,5,none⟩ (ι ac)).setCell ⟨k.L,6,none⟩ (ι s.tgt));have aB:Hid (qg (λb=>b=k.L∨RgB k.R1 k.A1 b) w W6):=κ (by rw[<-O];exact((((A2.o.mono (S':=λb=>b=k.L∨RgB k.R1 k.A1 b) λb d=>Or.inr d).more (ar.o.trans aK.o)).set (p:=⟨k.L,5,none⟩) (Or.inl rfl) _).set (p:=⟨k.L,6,none⟩) (Or.inl rfl) _));have aG:Hid (W6.heap[k.L]? =some (.cells (jQ k vo {s with A:=T,cur:=ac,B:=s.B++[(x,am)]}) 184 (0,0))):=κ (by rw[<-O];exact qB (qp (qp an.o 5 _) 6 _) rfl);have aV:Hid (W6.heap[w2.heap.size]? =some (.cells (Γj x os af ae ke aj ai) 218 (0,0))):=κ (by rw[<-O];exact qo (qo aX.o ⟨k.L,5,none⟩ _ aJ) ⟨k.L,6,none⟩ _ aJ)
  have aP:Hid (qN 13 289 218 W6 k.R1 k.A1 s.room ((av+1)%s.room) q aY _ aN aO _):=κ (by
   obtain⟨⟨Y,aa,_⟩,_⟩:=ad.o;rw[<-O]
   exact((bq.o.more (ar.o.trans aK.o)).away (S:=λb=>b=k.L) (((qg.refl (λb=>b=k.L) wc).set (p:=⟨k.L,5,none⟩) rfl _).set (p:=⟨k.L,6,none⟩) rfl _) (Ne.symm Y) (Ne.symm aa)))
  rw[O];clear O;obtain⟨aC,be,bx,aZ,bs,bo,bz,ah,ag⟩:=H.o.r2;have bH:=κ ag;have bP:be.length<s.room:=by have:=ag.len;omega
  have R2:Hid (qN 14 292 220 W6 k.R2 k.A2 s.room aC be bx aZ bs bo bz):=κ (ah.away aB.o (by obtain⟨⟨Y,aa,aI,az,bd,aQ⟩,⟨aE,aW,aS,bb,aM⟩,⟨av,aC,ca,bK⟩,_⟩:=ad.o;rintro(e | e | e)<;>omega) (by obtain⟨⟨Y,aa,aI,az,bd,aQ⟩,⟨aE,aW,aS,bb,aM⟩,⟨av,aC,ca,bK⟩,_⟩:=ad.o;rintro(e | e | e)<;>omega));have ce:k.R2<w.heap.size:=qn ah.ring;have ch:k.A2<w.heap.size:=qn ah.row;have ck:w.heap.size<=w2.heap.size:=A2.o.size;clear ah ag;have bp: ¬RgB k.R2 k.A2 k.L:=by
   obtain⟨⟨Y,aa,aI,az,_⟩,_⟩:=ad.o;rintro(e | e)<;>omega
  have bl: ¬RgB k.R2 k.A2 w2.heap.size:=by rintro(e | e)<;>omega
  have bg: ∀y:qz (RgB k.R2 k.A2) W6,y.w'.cell? ⟨k.L,2,none⟩=some (π (some ⟨k.R2,0,none⟩)):=λy=>qb (y.h.blk aG.o bp) 2 rfl
  have bk: ∀y:qz (RgB k.R2 k.A2) W6,y.w'.rangeAt w2.heap.size 0 (Γj x os af ae ke aj ai):=λy=>xy (y.h.blk aV.o bl)
  refine QN (RgB k.R2 k.A2) W6 8 8 [7] ?_
  iterate 4 (refine qE rfl rfl (qi σ) ?_;intro K G;go_big_quiet_op;go_big_quiet_on)
  refine jh rfl rfl (qi σ) 218 (.tmp 5) rfl w2.heap.size 0 rfl (Γj x os af ae ke aj ai) _ (λw' bf=>by obtain⟨y,rfl⟩:=bf;exact bk y) underlying218 rfl ξ ?_;intro K G;go_simp;refine G _ ?_;clear G K
  refine Qs ?_
  (refine Ql ?_;intro K G)
  go_call UH _ k.R2 k.A2 s.room aC be bx aZ bs bo bz (R2.o.more (qa.drewN W6 1)) bP (Γk x os af ae ke aj ai am) ⟨rfl,by simp[Value.oneCell']⟩ as e w8 ⟨rfl,⟨cg,bu⟩,bi⟩;have cc:=κ bu;have aq:Hid (qg (RgB k.R2 k.A2) W6 w8):=κ (((qg.refl _ W6).drewN 1).trans bi);clear bu bi;refine⟨_,rfl,qi aq.o,G _ _ ?_⟩;clear G K bg bk;refine qA ?_;have bA:=κ (aq.o.blk aG.o bp);have bM:=κ (aq.o.blk aV.o bl);have cj:w8.cell? ⟨w2.heap.size,0,none⟩=some (ι x.id):=qb bM.o 0 rfl;go_wp2;refine bodyPost_ret (v:= .tuple #[ι x.id,ι f,true]) (by simp[results,results142,go_sem]) rfl ?_;have ak:qg (λb=>b=k.L∨RgB k.R1 k.A1 b∨RgB k.R2 k.A2 b) w w8:=(aB.o.mono λb d=>by rcases d with e | e;exact Or.inl e;exact Or.inr (Or.inl e)).trans (aq.o.mono λb d=>Or.inr (Or.inr d));obtain⟨⟨Y,aa,aI,az,bd,aQ⟩,⟨aE,aW,aS,bb,aM⟩,⟨bO,bB,bC,bU⟩,⟨bY,bL,bF⟩,⟨bS,bG⟩,_⟩:=ad.o;have ab:qg k.muts w w8:=ak.mono λb d=>by rcases d with e | e | e;exact Or.inl e;exact Or.inr (Or.inl e);exact Or.inr (Or.inr (Or.inl e))
  have ay:qg (lnM k vo) w w8:=ab.mono λb d=>Or.inl d
  have M: ∀b,vo.ownBlock=some b->vo.ownBlock=some b∨w.heap.size<=b:=λb d=>Or.inl d
  have aL: ∀b,(λb=>b=k.L∨RgB k.R1 k.A1 b∨RgB k.R2 k.A2 b) b->lnE N k vo b:=λb d=>kZ (by rcases d with e | e | e;exact Or.inl e;exact Or.inr (Or.inl e);exact Or.inr (Or.inr (Or.inl e)))
  have U:=H.o.ok;exact⟨rfl,H.o.make ab.size bA.o ⟨_,_,_,_,_,_,_,aP.o.away aq.o (by rintro(e | e)<;>omega) (by rintro(e | e)<;>omega),AQ.o.mono λc y au=>H.o.held au ay M⟩ ⟨_,_,_,_,_,_,_,cc.o,(bH.o.mono λc y au=>H.o.held au ay M).snoc (H.o.held (jw.chosen am bQ.o) ay M)⟩ (H.o.r3.step ak (by rintro(e | (e | e) | (e | e))<;>omega) (by rintro(e | (e | e) | (e | e))<;>omega) aL λb d=>Or.inl (xE H.o.own M d)) (H.o.rows ab) ⟨U.most,U.row,U.lt,U.sq,U.src⟩,ab.mono λb d=>H.o.muts b d⟩
theorem De (h:LnX N w k vo s):Calls prog 142 #[γ k.L] w λe w'=>e= .returned (.tuple #[ι (jf s).2.1,ι (jf s).2.2.1,μ (jf s).2.2.2])/\LnX (xf N w w') w' k vo (jf s).1/\qg N w w':=by
 cases hm:vC s 1 with
 | false=>
  have e:jf s=(s,0,0,false):=by unfold jf;rw[if_pos hm]
  rw[e];refine(Y3 h hm).mono ?_;rintro e w' ⟨rfl,m⟩;exact⟨rfl,h.grow m,qg.of_more m⟩
 | true=>
  cases hA:s.A with
  | nil=>
   have:(decide (0<s.A.length)&&decide (¬s.B.length=s.room))=true:=hm;rw[hA] at this;simp at this
  | cons x T=>
   have e:jf s=({s with A:=T,cur:=(xJ s.cur s.tgt x.layer x.key).1,B:=if (xJ s.cur s.tgt x.layer x.key).2.1=0 then s.B++[(x,(xJ s.cur s.tgt x.layer x.key).2.2)] else s.B},x.id,(xJ s.cur s.tgt x.layer x.key).2.1,true):=by
    unfold jf;rw[if_neg (by rw[hm];decide),hA]
   rw[e];rcases ht:xJ s.cur s.tgt x.layer x.key with ⟨d,f,G⟩
   simp only;have:=Zn h hm x T hA d f G ht (f==0) rfl
   simpa using this
end
end
section
open _root_.Go.Proofs.Tryz
theorem Jz (n s:Int):Byt (qy n s):=by
 unfold qy;split
 ·exact JF _ _
 ·exact xh
theorem Ix (l:List Int):Byt (ssB l):=by
 induction l with
 | nil=>exact xh
 | cons x l ih=>exact zZ (Jz _ _) ih
theorem EM {p:Pk} (h:uf p):Byt (DB p):=by
 unfold DB CV Hz;refine zZ (zZ (zZ (zZ (zZ (zZ ?_ ?_) ?_) ?_) ?_) (Ix _)) ?_
 all_goals try exact Jz _ _
 split
 ·exact zZ (zZ (Jz _ _) (Jz _ _)) h.ex
 ·exact xh
theorem Iy {p:Pk} (h:uf p):Byt (pkB p):=zZ (EM h) h.pl
theorem qg.setNew {S:Nat->Prop} {a b:World} (h:qg S a b) {p:Addr} (H:a.heap.size<=p.block) (v:Value):qg S a (b.setCell p v):=
 ⟨h.os,h.tape,h.output,by simpa [World.setCell] using h.size,λk G d=>by rw[Below.heap_setCell _ _ _ _ (λe=>by omega)];exact h.block k G d⟩
theorem Vg {w:World} {base e size n b:Nat} {v:Value} {xs:List Value} (h:w.ownsRow base e size v n xs) (d:v.ownBlock=some b):b<w.heap.size:=by
 rcases h.2 with ⟨rfl,_⟩ | ⟨g,cap,cur,rfl,_,G,_⟩
 ·cases d
 ·obtain rfl:g=b:=by injection d
  exact lt_of_block G
def vE (room:Nat) (q:List (List Value)) (x:List Value):List (List Value):=if q.length<room then q++[x] else q.tail++[x]
theorem Pc (ac:World) (R A room f:Nat) (q:List (List Value)) (J I M H:Int) (css:List (List Value)) (Y:qN 2 294 107 ac R A room f q J I M H css)
  (ad: ∀c∈q,∃i d n G,c=[ι i,δ d n G]) (x:List Value) (ab:x.length=2/\ ∀u∈x,u.oneCell'=true):
  ∃old d n G,(old=if q.length<room then 0 else (q.head?.map idN).getD 0)/\
  ∀w,qN 2 294 107 w R A room f q J I M H css->Calls prog 188 #[γ R,θ x.toArray] w λe w'=>e= .returned (.tuple #[θ #[ι old,δ d n G],(decide (¬q.length<room)),ι 0])/\
   (∃f' N aa css',qN 2 294 107 w' R A room f' (vE room q x) N I aa H css')/\qg (RgB R A) w w':=by
 by_cases hq:q.length<room
 ·refine⟨0,none,0,0,by rw[if_pos hq],λw h=> ?_⟩;have O:decide (¬q.length<room)=false:=by simp[hq]
  have U:vE room q x=q++[x]:=by unfold vE;rw[if_pos hq]
  rw[O,U];refine(UD w R A room f q J I M H css h hq x ab).mono ?_;rintro e w' ⟨rfl,⟨N,g⟩,a⟩;exact⟨rfl,⟨_,_,_,_,g⟩,a⟩
 ·have af:=Y.fits;have ae:=Y.pos;cases q with
  | nil=>simp at hq;omega
  | cons c T=>
   obtain⟨i,d,n,G,rfl⟩:=ad c η;refine⟨i,d,n,G,by rw[if_neg hq];rfl,λw h=> ?_⟩;have O:decide (¬([ι i,δ d n G]::T).length<room)=true:=by simpa using hq
   have U:vE room ([ι i,δ d n G]::T) x=T++[x]:=by unfold vE;rw[if_neg hq];rfl
   rw[O,U];refine(UE w R A room f [ι i,δ d n G] T J I M H css h τ x ab).mono ?_;rintro e w' ⟨rfl,⟨N,aa,g⟩,a⟩;exact⟨rfl,⟨_,_,_,_,g⟩,a⟩
theorem zb.tl {α β:Type} {p:α->β->Prop} {l:List α} {m:List β} (h:zb p l m):zb p l.tail m.tail:=by
 cases l with
 | nil=>cases m with
  | nil=>exact trivial
  | cons b m=>exact h.elim
 | cons a l=>cases m with
  | nil=>exact h.elim
  | cons b m=>exact h.2
theorem DY {α:Type} {R:qL α} {D:Nat->Prop} {w:World} {room:Nat} {q:List (List Value)} {l:List α} {c:List Value} {y:α} (a:zb (jw R D w) q l) (h:jw R D w c y):
  zb (jw R D w) (vE room q c) (if l.length<room then l++[y] else l.tail++[y]):=by
 unfold vE;rw[a.len];split
 ·exact a.snoc h
 ·exact a.tl.snoc h
section
variable {N:Nat->Prop} {w w':World} {k:LnB} {vo vo':Value} {s s':LnS}
theorem LnX.fresh (h:LnX N w k vo s) {G:IntKind} {v:Value} {l:List Int} (I:SlI G w' v l) (J: ∀b,v.ownBlock=some b->w.heap.size<=b/\b<w'.heap.size) (H: ∀b,vo'.ownBlock=some b->vo.ownBlock=some b) {w'':World} (a:qg (lnE (xf N w w') k vo') w' w''):SlI G w'' v l:=by
 refine I.off (λb e d=> ?_) a;obtain⟨M,O⟩:=J b e;rcases d with d | d
 ·have:=h.own b (h.muts b (d (Or.inr ⟨M,O⟩)));omega
 ·have:=h.own b (h.vob (H b d)).1;omega
theorem UJ {D:Nat->Prop} {q:List (List Value)} {l:List (Int×List Int)} (a:zb (jw ROu D w) q l): ∀c∈q,∃i G n d,c=[ι i,δ G n d]:=λc I=>by
 obtain⟨o,_,H⟩:=a.mem c I;obtain⟨v,rfl,⟨G,d,rfl,_⟩,_⟩:=H.read;exact⟨_,_,_,_,rfl⟩
theorem Pg {D:Nat->Prop} {q:List (List Value)} {l:List (Int×List Int)} (a:zb (jw ROu D w) q l):(q.head?.map idN).getD 0=(l.head?.map (·.1)).getD 0:=by
 cases l with
 | nil=>rw[a.nil_r];rfl
 | cons o l=>
  obtain⟨c,q',rfl,d,_⟩:=a.uncons;obtain⟨v,rfl,_⟩:=d.read;rfl
end
end
end Go.Proofs.YtdgippmmaponfaaGreat
