/- Texts of one proof, joined: TapeF, TapeG, TapeEnv, TapeLaw. -/
import Derived.Test.YtgjnnbomnoafcaaGreatPBB
import Derived.Test.YtgjnnbomnoafcaaGreatPT
import Derived.Test.YtgjnnbomnoafcaaGreatPX
import Derived.Test.YtgjnnbomnoafcaaGreatPZ
set_option linter.unusedVariables false
set_option linter.unusedSimpArgs false
namespace Go.Proofs.YtgjnnbomnoafcaaGreat
set_option linter.unusedVariables false
open Go Go.RowKit
theorem Tp.unpackN_len:∀ (n:Nat) (b:List Nat),(Tp.unpackN n b).length<=n
 | 0,_=>Nat.zero_le _
 | n+1,b=>by
  unfold Tp.unpackN
  split
  ·
   exact Nat.zero_le _
  ·
   split
   ·
    exact Nat.zero_le _
   ·
    have:=Tp.unpackN_len n ((b.drop 2).drop (Tp.head b))
    exact Nat.succ_le_succ this
theorem Tp.empty_len (l:List (List Nat)):(Tp.empty l).length<=l.flatten.length:=Tp.unpackN_len _ _
theorem infoRows:(Tryz.prog.info? 22).map (fun i=>(i.zero,i.size,i.bytes))=some (some (.slice none 0 0),1,24):=by kernel_rfl
def TapesIn (S:Nat->Prop) (w:World) (a:Option Addr) (L:List (List (List Nat))):Prop:=∀ i es,L[i]?=some es->∃ g off p cp,a=some ⟨g,off,none⟩/\S g/\w.cell? ⟨g,off+i,none⟩=some (.slice p es.length cp)/\es.length<=140737488355328/\EntsIn S w p es
theorem TapesIn.tapes {S:Nat->Prop} {w:World} {a:Option Addr} {L:List (List (List Nat))} (h:TapesIn S w a L):TapesAt w a L:=fun i es hx=>by
 obtain ⟨g,off,p,cp,h1,_,h2,h3,h4⟩:=h i es hx
 exact ⟨g,off,p,cp,h1,h2,h3,h4.ents⟩
theorem TapesIn.mono {S T:Nat->Prop} {w:World} {a:Option Addr} {L:List (List (List Nat))} (h:TapesIn S w a L) (hT:∀ b,S b->T b):TapesIn T w a L:=fun i es hx=>by
 obtain ⟨g,off,p,cp,h1,h2,h3,h4,h5⟩:=h i es hx
 exact ⟨g,off,p,cp,h1,hT g h2,h3,h4,h5.mono hT⟩
def tapV (a:Option Addr) (n c:Nat):Array Value:=#[.slice a n c]
structure TOwn (w:World) (B:Nat) (v:Value) (L:List (List (List Nat))) (ad:Nat->Option Addr) (cp:Nat->Nat):Prop where
 own:OwnVs w B 22 1 v ((List.range L.length).map fun i=>tapV (ad i) (L.getD i []).length (cp i))
 at_:∀ i,i < L.length->EntsIn (fun b=>B<=b/\b < w.heap.size/\v.ownBlock≠some b) w (ad i) (L.getD i [])
 len:∀ i,i < L.length->(L.getD i []).length<=140737488355328
namespace TOwn
variable {w w':World} {B:Nat} {v:Value} {L:List (List (List Nat))} {ad:Nat->Option Addr} {cp:Nat->Nat}
theorem nil (w:World) (B:Nat):TOwn w B (.slice none 0 0) [] (fun _=>none) fun _=>0:=⟨OwnVs.nil _ _ _ _,fun i hi=>by simp at hi,fun i hi=>by simp at hi⟩
theorem only {F:Nat->Prop} (H:TOwn w B v L ad cp) (e:Only F w w') (hF:∀ b,B<=b->¬F b):TOwn w' B v L ad cp :=
 ⟨H.own.only e fun b hb=>hF b (H.own.lt b hb).1,fun i hi=>((H.at_ i hi).only e fun b hb=>hF b hb.1).mono fun b hb=>⟨hb.1,Nat.lt_of_lt_of_le hb.2.1 e.size,hb.2.2⟩,H.len⟩
theorem ext (H:TOwn w B v L ad cp) (e:Ext w w'):TOwn w' B v L ad cp:=H.only e fun _ _ x=>x
theorem push (H:TOwn w B v L ad cp) {W:World} (e:Ext w W) {a:Option Addr} {c:Nat} {es:List (List Nat)} (hb:EntsIn (fun b=>w.heap.size<=b/\b < W.heap.size) W a es) (hes:es.length<=140737488355328) (hq:L.length < 900) (hB:B<=w.heap.size) :
  ∃ v' w' ad' cp',(Builtin.append_ #[51,51] 51 #[v,.slice (some ⟨W.heap.size,0,none⟩) 1 1]).run Tryz.prog (W.alloc (.cells (tapV a es.length c) 22))=.ok v' w'/\TOwn w' B v' (L++[es]) ad' cp'/\Only (fun b=>v.ownBlock=some b) W w':=by
 have hx:Ext W (W.alloc (.cells (tapV a es.length c) 22)):=(Ext.refl W).alloc _
 have hs1:(W.alloc (.cells (tapV a es.length c) 22)).heap.size=W.heap.size+1:=by simp
 obtain ⟨v',w',e1,e2,e3,e4,e5⟩:=((H.own.ext e).ext hx).push (tsl:=51) Tryz.underlying51 infoRows rfl (by omega) (tapV a es.length c) rfl (by intro u hu; simp [tapV] at hu; subst hu; rfl) ⟨W.heap.size,0,none⟩ (Zai Zad) 1 (by simp; omega) (by omega) (by have:=e.size; simp; omega)
 have ho:Only (fun b=>v.ownBlock=some b) W w':=Only.trans (Ext.only hx) e3 (fun _ _ h=>h)
 have hl1:(L++[es]).length=L.length+1:=by simp
 have g1:∀ i,i < L.length->(L++[es]).getD i []=L.getD i []:=fun i hi=>by
  rw [List.getD_eq_getElem?_getD,List.getD_eq_getElem?_getD,List.getElem?_append_left hi]
 have g2:(L++[es]).getD L.length []=es:=by
  rw [List.getD_eq_getElem?_getD,List.getElem?_append_right (Nat.le_refl _),Nat.sub_self]; rfl
 have hown:∀ b,b < W.heap.size->v.ownBlock≠some b->v'.ownBlock≠some b:=fun b hb hn=>by
  rcases e5 with q5 | q5
  ·
   rw [q5]; exact hn
  ·
   rw [q5]; intro hv
   have hv:(W.alloc (.cells (tapV a es.length c) 22)).heap.size=b:=by simpa using hv
   omega
 refine ⟨v',w',fun i=>if i < L.length then ad i else a,fun i=>if i < L.length then cp i else c,e1,⟨?_,fun i hi=>?_,fun i hi=>?_⟩,ho⟩
 ·
  have el:((List.range (L++[es]).length).map fun i=>tapV (if i < L.length then ad i else a) ((L++[es]).getD i []).length (if i < L.length then cp i else c))=((List.range L.length).map fun i=>tapV (ad i) (L.getD i []).length (cp i))++[tapV a es.length c]:=by
   rw [hl1,List.range_succ,List.map_append]
   have e1:((List.range L.length).map fun i=>tapV (if i < L.length then ad i else a) ((L++[es]).getD i []).length (if i < L.length then cp i else c))=(List.range L.length).map fun i=>tapV (ad i) (L.getD i []).length (cp i):=List.map_congr_left fun i hi=>by
    have:=List.mem_range.1 hi
    rw [if_pos this,if_pos this,g1 i this]
   rw [e1,List.map_cons,List.map_nil,if_neg (Nat.lt_irrefl _),if_neg (Nat.lt_irrefl _),g2]
  rw [el]; exact e2
 ·
  rw [hl1] at hi
  by_cases hiq:i < L.length
  ·
   rw [if_pos hiq,g1 i hiq]
   refine (((H.at_ i hiq).ext e).only ho fun b hb=>hb.2.2).mono fun b hb=>⟨hb.1,by have:=e.size; have:=ho.size; omega,hown b (by have:=e.size; omega) hb.2.2⟩
  ·
   rw [if_neg hiq]
   have:i=L.length:=by omega
   subst this
   rw [g2]
   refine (hb.only ho fun b hb hv=>?_).mono fun b hb=>⟨by omega,by have:=ho.size; omega,hown b hb.2 fun hv=>?_⟩
   ·
    have:=(H.own.lt b hv).2; omega
   ·
    have:=(H.own.lt b hv).2; omega
 ·
  rw [hl1] at hi
  by_cases hiq:i < L.length
  ·
   rw [g1 i hiq]; exact H.len i hiq
  ·
   have:i=L.length:=by omega
   subst this
   rw [g2]; exact hes
theorem slice (H:TOwn w B v L ad cp):∃ a c,v=.slice a L.length c/\TapesIn (fun b=>B<=b) w a L:=by
 obtain ⟨a,c,e,z⟩:=H.own.slice
 rw [List.length_map,List.length_range] at e
 rcases z with ⟨z,rfl⟩ | ⟨g,rfl,hg1,hg2,hc,hv⟩
 ·
  have h0:=congrArg List.length z
  rw [List.length_map,List.length_range] at h0
  have h1:L=[]:=List.length_eq_zero_iff.1 (by simpa using h0)
  subst h1
  exact ⟨none,c,e,fun i x hx=>by simp at hx⟩
 ·
  refine ⟨_,c,e,fun i x hx=>?_⟩
  have hi:i < L.length:=(List.getElem?_eq_some_iff.1 hx).1
  have hg:L.getD i []=x:=by rw [List.getD_eq_getElem?_getD,hx]; rfl
  have h1:=hv i (tapV (ad i) x.length (cp i)) (by rw [List.getElem?_map,List.getElem?_range hi]; show some (tapV (ad i) (L.getD i []).length (cp i))=_; rw [hg]) 0 _ rfl
  have h2:=H.at_ i hi
  have h3:=H.len i hi
  rw [hg] at h2 h3
  exact ⟨g,0,ad i,cp i,rfl,hg1,by rw [Nat.zero_add]; simpa using h1,h3,h2.mono fun b hb=>hb.1⟩
end TOwn
def tscan (rd:Nat->List (List Nat) × Int × Option Err):Nat->Option Err × List (List (List Nat))
 | 0=>(none,[])
 | n+1=>match tscan rd n with
  | (some e,L)=>(some e,L)
  | (none,L)=>match (rd n).2.2 with
   | some e=>(some (.fault sTOpen 0 e),L)
   | none=>if (rd n).2.1=1 then (none,L) else if n=L.length then (none,L++[Tp.empty (rd n).1]) else (some (.fault sTOpen 0 (.loss n 0 1)),L)
theorem tscan_stop {rd:Nat->List (List Nat) × Int × Option Err} {e:Err} {L:List (List (List Nat))} {i:Nat} (h:tscan rd i=(some e,L)):∀ n,i<=n->tscan rd n=(some e,L):=by
 intro n hn
 induction n with
 | zero =>
  have:i=0:=by omega
  subst this; exact h
 | succ n ih =>
  by_cases q:i=n+1
  ·
   rw [<- q]; exact h
  ·
   show (match tscan rd n with | (some e,L)=>(some e,L) | (none,L)=>_)=_
   rw [ih (by omega)]
theorem tscan_len (rd:Nat->List (List Nat) × Int × Option Err):∀ n,(tscan rd n).2.length<=n
 | 0=>Nat.le_refl _
 | n+1=>by
  have ih:=tscan_len rd n
  unfold tscan
  rcases h:tscan rd n with ⟨o,L⟩
  rw [h] at ih
  have ih:L.length<=n:=ih
  rcases o with _ | e
  ·
   show (match (rd n).2.2 with | some e=>_ | none=>_:Option Err × List (List (List Nat))).2.length<=n+1
   split
   ·
    exact Nat.le_succ_of_le ih
   ·
    split
    ·
     exact Nat.le_succ_of_le ih
    ·
     split
     ·
      rw [List.length_append]; simp; omega
     ·
      exact Nat.le_succ_of_le ih
  ·
   exact Nat.le_succ_of_le ih
end Go.Proofs.YtgjnnbomnoafcaaGreat
namespace Go.Proofs.YtgjnnbomnoafcaaGreat
set_option linter.unusedVariables false
open Go Go.RowKit
attribute [local irreducible] wpSQ
def Rck.topen (R:Rck):Option Err × Rck × Vol × List (List (List Nat)) :=
 match R.vopen with
 | (some e,R',_,_)=>(some (.fault sTOpen 0 e),R',⟨Cfg.zero,0,false⟩,[])
 | (none,R',c,cur)=>((tscan (fun s=>Vol.read ⟨c,cur,false⟩ R' (s:Int)) c.stripes.toNat).1,R',⟨c,cur,false⟩,(tscan (fun s=>Vol.read ⟨c,cur,false⟩ R' (s:Int)) c.stripes.toNat).2)
structure TOpenOk (S:Nat->Prop) (w:World) (r:Nat) (R:Rck) (v:Vol) (L:List (List (List Nat))) (e:Ending) (w':World) (g t:Nat) (T:Nat->Prop) (a:Option Addr) (cp:Nat):Prop where
 ret:e=.returned (.tuple #[.pointer (some ⟨t,0,none⟩),.slice a L.length cp,.nilIface])
 rack:RackAt T w' r R
 vol:VolAt w' g r v
 tape:TapeAt w' t g L.length
 rows:TapesAt w' a L
 low:∀ b,S b->T b
 gT:T g
 tT:T t
 newg:w.heap.size<=g
 newt:w.heap.size<=t
 ne:t≠g
 keep:Keeps S w w'
 rowsIn:TapesIn (fun b=>w.heap.size<=b) w' a L
structure TOpenBad (S:Nat->Prop) (w:World) (r:Nat) (R:Rck) (er:Err) (e:Ending) (w':World):Prop where
 ret:e=.returned (.tuple #[.pointer none,.slice none 0 0,oErr (some er)])
 rack:RackAt S w' r R
 keep:Keeps S w w'
def TOpenPost (S:Nat->Prop) (w:World) (r:Nat) (q:Option Err × Rck × Vol × List (List (List Nat))) (e:Ending) (w':World):Prop :=
 (∃ er,q.1=some er/\TOpenBad S w r q.2.1 er e w')\/(q.1=none/\∃ g t T a cp,TOpenOk S w r q.2.1 q.2.2.1 q.2.2.2 e w' g t T a cp)
theorem built_tape (g:Nat):Tryz.prog.built 74 [(0,.pointer (some ⟨g,0,none⟩))]=some #[.pointer (some ⟨g,0,none⟩),.int .i64 0]:=by kernel_rfl
theorem built_loss2 (i:Int):Tryz.prog.built 79 [(0,.int .i64 i),(2,.int .i64 1)]=some #[.int .i64 i,.int .i64 0,.int .i64 1]:=by kernel_rfl
set_option maxRecDepth 100000 in
set_option maxHeartbeats 3000000 in
theorem topen_c {S:Nat->Prop} {w:World} {r:Nat} {R:Rck} (h:RackAt S w r R) (hgd:∀ R' c cur,R.vopen=(none,R',c,cur)->c.Good/\∀ s:Nat,s < c.stripes.toNat->∀ l gen,Vol.read ⟨c,cur,false⟩ R' (s:Int)=(l,gen,none)->l≠[]/\l.length<=8/\(∀ b∈l,b.length=108)/\∀ b∈l,∀ x∈b,x < 256) :
  Calls Tryz.prog 21 #[.pointer (some ⟨r,0,none⟩)] w (TOpenPost S w r R.topen):=by
 have H:=hid h
 have HGD:=hid hgd
 clear h hgd
 go_enter Tryz.func21,Tryz.ntmps21
 go_wp2_with fail
 refine (vopen_c H.out).mono ?_
 rintro e w1 h1
 rcases hvo:R.vopen with ⟨o,R',c,cur⟩
 rw [hvo] at h1
 rcases h1 with ⟨er,q,hb⟩ | ⟨q,g,T,hok⟩
 ·
  have q:o=some er:=q
  subst q
  have HT:=hid (show R.topen=(some (.fault sTOpen 0 er),R',⟨Cfg.zero,0,false⟩,[]) by unfold Rck.topen; rw [hvo])
  obtain rfl:=hb.ret
  have HB:=hid hb
  obtain ⟨et,ev,hev⟩:=er.iface
  have HWE:=hid (Zap sTOpen 0 er w1)
  rw [hev] at HWE
  simp only [oErr]
  rw [hev]
  clear hb hvo hev
  go_wp2_with fail
  refine HWE.out.mono ?_
  rintro e w2 ⟨rfl,rfl⟩
  go_wp2
  go_ret3
  rw [HT.out]
  exact .inl ⟨_,rfl,rfl,HB.out.rack,HB.out.keep⟩
 ·
  have q:o=none:=q
  subst q
  obtain ⟨hcg,hrl⟩:=HGD.out R' c cur hvo
  obtain ⟨rd,hrd⟩:∃ rd:Nat->List (List Nat) × Int × Option Err,(fun s:Nat=>Vol.read ⟨c,cur,false⟩ R' (s:Int))=rd:=⟨_,rfl⟩
  have HRD:=hid (show ∀ s:Nat,Vol.read ⟨c,cur,false⟩ R' (s:Int)=rd s from fun s=>by rw [<- hrd])
  obtain ⟨ss,hss⟩:∃ ss:Nat,c.stripes=ss:=⟨c.stripes.toNat,by have:=hcg.st0; omega⟩
  have HT:=hid (show R.topen=((tscan rd ss).1,R',⟨c,cur,false⟩,(tscan rd ss).2) by unfold Rck.topen; rw [hvo]; simp only [hrd,show c.stripes.toNat=ss by omega])
  have HRL:=hid (show ∀ s:Nat,s < ss->∀ l gen,rd s=(l,gen,none)->l≠[]/\l.length<=8/\(∀ b∈l,b.length=108)/\∀ b∈l,∀ x∈b,x < 256 from fun s hs l gen q=>hrl s (by omega) l gen (by rw [HRD.out]; exact q))
  have ss64:ss<=64:=by have:=hcg.st1; omega
  have HSS:=hid hss
  obtain rfl:=hok.ret
  have HOK:=hid hok
  obtain ⟨W2,hW2⟩:∃ W,w1.alloc (.cells #[.pointer (some ⟨g,0,none⟩),.int .i64 0] 74)=W:=⟨_,rfl⟩
  have x2:Ext w1 W2:=hW2▸(Ext.refl w1).alloc _
  obtain ⟨tb,htb⟩:∃ tb,w1.heap.size=tb:=⟨_,rfl⟩
  have HTA:=hid (show TapeAt W2 tb g 0 from by rw [<- hW2,<- htb]; exact heap_alloc_new _ _)
  have HTL:=hid (show tb < W2.heap.size from lt_of_block HTA.out)
  obtain ⟨T2,hT2⟩:∃ S',wideS T w1 W2=S':=⟨_,rfl⟩
  have HR2:=hid (show RackAt T2 W2 r R' from hT2▸hok.rack.pokes x2 fun b hb=>hb.elim)
  have HLOW:=hid (show ∀ b,S b->T2 b from fun b hb=>hT2▸.inl (hok.low b hb))
  have HTG:=hid (show T2 g from hT2▸.inl hok.gT)
  have HTT:=hid (show T2 tb from hT2▸.inr ⟨by omega,HTL.out⟩)
  have HV2:=hid (show VolAt W2 g r ⟨c,cur,false⟩ from hok.vol.ext x2)
  have HNE:=hid (show tb≠g from by have:=lt_of_block hok.vol; omega)
  have HNS:=hid (show ¬S tb from fun q=>by have:=H.out.there tb q; have:=hok.keep.size; omega)
  have HKP:=hid (show Keeps S w W2 from Only.ext hok.keep x2)
  have HNW:=hid (show w.heap.size<=g/\w.heap.size<=tb from ⟨hok.new,by have:=hok.keep.size; omega⟩)
  have HW2:=hid hW2
  have HBT:=hid (built_tape g)
  have a3:=cfg_field3 c
  rw [hss] at a3
  clear hvo hcg hrl hss hrd hok hW2 hT2 x2
  go_wp2_with (guard_target=wpList _ _ _ (⟨some _,Op.build _ _,_,_,_,none⟩::_) _ _; refine Zao rfl 74 _ rfl _ ?_ ?_; (simp only [List.map_toArray,List.map_cons,List.map_nil,Act.eval]; exact HBT.out))
  rw [HW2.out]
  refine (vconfig_c HV2.out).mono ?_
  rintro e w3 ⟨rfl,x3⟩
  have HTA3:=hid (HTA.out.ext x3)
  have HR3:=hid (HR2.out.ext x3)
  have HV3:=hid (HV2.out.ext x3)
  have HKP3:=hid (show Keeps S w w3 from Only.ext HKP.out x3)
  have HTL3:=hid (show tb < w3.heap.size from lt_of_block HTA3.out)
  clear x3 HTA HR2 HV2 HKP HTL
  go_wp2_with fail
  clear a3
  go_loopw [28,8] (fun t v wr=>∃ (i:Nat) (L:List (List (List Nat))) (ad:Nat->Option Addr) (cp:Nat->Nat),t=.int .i64 i/\i<=ss/\tscan rd i=(none,L)/\TOwn wr w3.heap.size v L ad cp/\TapeAt wr tb g L.length/\Only (fun b=>b=tb) w3 wr) (fun t _ _=>ss - (intOf t).toNat)
  case atStart=>exact ⟨0,[],_,_,rfl,by omega,rfl,TOwn.nil _ _,HTA3.out,Only.refl _ _⟩
  case round =>
   clear HTA3
   obtain ⟨i,L,ad,cp,rfl,hi,hsc,hown,hta,hon⟩:=hrel
   have hll:L.length<=i:=by have:=tscan_len rd i; rw [hsc] at this; exact this
   have HSC:=hid hsc; have HO:=hid hown; have HTA:=hid hta; have HON:=hid hon
   have HR:=hid (show RackAt T2 wr r R' from HR3.out.only hon fun b e=>by have e:b=tb:=e; rw [e]; exact HTT.out)
   have HV:=hid (show VolAt wr g r ⟨c,cur,false⟩ from hon.at HV3.out fun e=>HNE.out e.symm)
   have HKW:=hid (show Keeps S w wr from Only.trans HKP3.out hon fun b _ e=>by have e:b=tb:=e; rw [e]; exact HNS.out)
   clear hsc hown hta hon
   by_cases hlt:i < ss
   ·
    have i1:(i:Int) < (ss:Int):=by omega
    have HNX:=hid (show tscan rd (i+1)=match (rd i).2.2 with
     | some e=>(some (.fault sTOpen 0 e),L)
     | none=>if (rd i).2.1=1 then (none,L) else if i=L.length then (none,L++[Tp.empty (rd i).1]) else (some (.fault sTOpen 0 (.loss i 0 1)),L) by
      show (match tscan rd i with | (some e,L)=>(some e,L) | (none,L)=>_)=_
      rw [HSC.out]<;>rfl)
    rcases hr:rd i with ⟨l,gen,o⟩
    rw [hr] at HNX
    go_wp2_with fail
    refine (vread_c HR.out HV.out i).mono ?_
    rintro e w5 ⟨val,rfl,hown5,x5⟩
    have HX5:=hid x5
    rw [HRD.out i,hr] at hown5 ⊢
    rcases o with _ | er
    ·
     obtain ⟨g0,g1,g2,g3⟩:=HRL.out i hlt l gen hr
     obtain ⟨a5,c5,rfl,hbk,hab⟩:=kblocks_at g2 hown5
     have HAB:=hid hab
     have G0:=hid g0; have G2:=hid g2; have G3:=hid g3; have HB:=hid hbk
     simp only [oErr]
     clear hown5 x5 hr g0 g2 g3 hbk hab
     by_cases hg1:gen=1
     ·
      have t1:(gen == 1)=true:=by simp [hg1]
      have HN1:=hid (show tscan rd (i+1)=(none,L) by rw [HNX.out]; simp only [hg1,if_true])
      clear HNX
      go_wp2_with fail
      go_roundw
      case rel=>exact ⟨i+1,L,ad,cp,by go_num,by omega,HN1.out,HO.out.ext HX5.out,HTA.out.ext HX5.out,Only.ext HON.out HX5.out⟩
      case measure=>simp [intOf]; omega
     ·
      have t1:(gen == 1)=false:=beq_eq_false_iff_ne.2 hg1
      have c1:=(HTA.out.ext HX5.out).c1
      by_cases hil:i=L.length
      ·
       have HN1:=hid (show tscan rd (i+1)=(none,L++[Tp.empty l]) by rw [HNX.out]; simp only [if_neg hg1,if_pos hil])
       have t2:((i:Int) != (L.length:Int))=false:=by simp [hil]
       have t3:¬(i:Int)≠(L.length:Int):=by omega
       have HIL:=hid hil
       have hw1:wrap64 ((L.length:Int)+1)=(L.length:Int)+1:=by unfold wrap64; omega
       have f1:w5.frozen? ⟨tb,1,none⟩=false:=Za7 (HTA.out.ext HX5.out)
       have HT6:=hid (show TapeAt (w5.setCell ⟨tb,1,none⟩ (.int .i64 ((L.length:Int)+1))) tb g (L.length+1) from Zay (HTA.out.ext HX5.out) (i:=1) (.int .i64 ((L.length:Int)+1)))
       have HO6:=hid (show Only (fun b=>b=tb) w5 (w5.setCell ⟨tb,1,none⟩ (.int .i64 ((L.length:Int)+1))) from Zbd _ _ _ _)
       have HW6:=hid ((HO.out.ext HX5.out).only HO6.out fun b hb e=>by have e:b=tb:=e; have:=HTL3.out; omega)
       have HB6:=hid (HB.out.only HO6.out fun q hq e=>by have h1:=HAB.out q hq; have h2:=HON.out.size; have h3:=HTL3.out; have e:q=tb:=e; omega)
       clear HNX hil
       go_wp2_with fail
       generalize w5.setCell ⟨tb,1,none⟩ (.int .i64 ((L.length:Int)+1))=W6 at *
       refine (tempty_c l G2.out G3.out G0.out g1 a5 c5 W6 HB6.out).mono ?_
       rintro e w7 ⟨u,bk,cp7,rfl,heo,x7⟩
       obtain ⟨a7,c7,rfl,hin,hc7⟩:=heo.slice
       have hel:=Tp.empty_len l
       have hfl:l.flatten.length<=108*l.length:=by have:=Zci G2.out l.length; rw [List.take_length] at this; exact this
       obtain ⟨es,hes⟩:∃ es,Tp.empty l=es:=⟨_,rfl⟩
       rw [hes] at HN1 hin hel ⊢
       have hs6:w3.heap.size<=W6.heap.size:=Nat.le_trans HON.out.size (Nat.le_trans HX5.out.size HO6.out.size)
       obtain ⟨v8,w8,ad8,cp8,hap,how8,hon8⟩:=HW6.out.push x7 (c:=c7) hin (by omega) (by omega) hs6
       have HAP:=hid hap; have HW8:=hid how8
       have HSV:=hid (show (tapV a7 es.length c7).size=1 from rfl)
       have HT8:=hid (show TapeAt w8 tb g (L++[es]).length from by
        rw [List.length_append]
        exact hon8.at (HT6.out.ext x7) fun e=>by have:=(HW6.out.own.lt tb e).1; have:=HTL3.out; omega)
       have HON8:=hid (show Only (fun b=>b=tb) w3 w8 from Only.trans (Only.ext (Only.trans (Only.ext HON.out HX5.out) HO6.out fun b _ e=>e) x7) hon8 fun b hb e=>by have:=(HW6.out.own.lt b e).1; omega)
       clear hap how8 hon8 heo hin x7 hes HW6 HT6 HO6 HB6
       go_wp2_with (first
        | (guard_target=wpList _ _ _ (⟨some _,Op.buildSlice _ _ _,_,_,_,none⟩::_) _ _; refine Zak rfl 51 22 _ rfl (tapV a7 es.length c7) _ _ 1 24 Tryz.underlying51 infoRows (by omega) (by omega) rfl rfl HSV.out ?_)
        | (at_builtin; refine Zah rfl _ _ _ rfl _ _ _ _ rfl rfl HAP.out ?_))
       go_roundw
       case rel=>exact ⟨i+1,L++[es],ad8,cp8,by go_num,by omega,HN1.out,HW8.out,HT8.out,HON8.out⟩
       case measure=>simp [intOf]; omega
      ·
       have HN1:=hid (show tscan rd (i+1)=(some (.fault sTOpen 0 (.loss i 0 1)),L) by rw [HNX.out]; simp only [if_neg hg1,if_neg hil])
       have t2:((i:Int) != (L.length:Int))=true:=by simp; omega
       have t3:(i:Int)≠(L.length:Int):=by omega
       have HBL:=hid (built_loss2 i)
       have HWE:=hid (Zap sTOpen 0 (.loss i 0 1) w5)
       simp only [Err.val] at HWE
       have HTT2:=hid (show R.topen.1=some (.fault sTOpen 0 (.loss i 0 1))/\R.topen.2.1=R' from by rw [HT.out,tscan_stop HN1.out ss (by omega)]; exact ⟨rfl,rfl⟩)
       clear HNX
       go_wp2_with (guard_target=wpList _ _ _ (⟨some _,Op.build _ _,_,_,_,none⟩::_) _ _; refine Zao rfl 79 _ rfl _ ?_ ?_; (simp only [List.map_toArray,List.map_cons,List.map_nil,Act.eval]; exact HBL.out))
       refine HWE.out.mono ?_
       rintro e w6 ⟨rfl,rfl⟩
       go_wp2
       go_ret3
       refine .inl ⟨_,HTT2.out.1,rfl,?_,Only.ext HKW.out HX5.out⟩
       rw [HTT2.out.2]
       exact (HR.out.ext HX5.out).less HLOW.out
    ·
     obtain ⟨et,ev,hev⟩:=er.iface
     have HWE:=hid (Zap sTOpen 0 er w5)
     rw [hev] at HWE
     obtain ⟨a5,c5,rfl,_⟩:=hown5.slice
     have HTT2:=hid (show R.topen.1=some (.fault sTOpen 0 er)/\R.topen.2.1=R' from by rw [HT.out,tscan_stop HNX.out ss (by omega)]; exact ⟨rfl,rfl⟩)
     simp only [oErr]
     rw [hev]
     clear hown5 x5 hr hev HNX
     go_wp2_with fail
     refine HWE.out.mono ?_
     rintro e w6 ⟨rfl,rfl⟩
     go_wp2
     go_ret3
     refine .inl ⟨_,HTT2.out.1,rfl,?_,Only.ext HKW.out HX5.out⟩
     rw [HTT2.out.2]
     exact (HR.out.ext HX5.out).less HLOW.out
   ·
    have i1:¬(i:Int) < (ss:Int):=by omega
    obtain rfl:i=ss:=by omega
    have HTT2:=hid (show R.topen=(none,R',⟨c,cur,false⟩,L) from by rw [HT.out,HSC.out])
    obtain ⟨ao,co,rfl,hrw⟩:=HO.out.slice
    have HRW:=hid hrw
    clear hrw
    go_wp2_with fail
    go_ret3
    rw [HTT2.out]
    exact .inr ⟨rfl,g,tb,T2,ao,co,rfl,HR.out,HV.out,HTA.out,HRW.out.tapes,HLOW.out,HTG.out,HTT.out,HNW.out.1,HNW.out.2,HNE.out,HKW.out,HRW.out.mono fun b hb=>Nat.le_trans HKP3.out.size hb⟩
end Go.Proofs.YtgjnnbomnoafcaaGreat
namespace Go.Proofs.YtgjnnbomnoafcaaGreat
set_option linter.unusedVariables false
open Go Go.RowKit
structure TX (w0 w:World) (S:Nat->Prop) (r:Nat) (R:Rck) (gc:Nat) (c:Cfg) (g:Nat) (v:Vol) (t u:Nat):Prop where
 vx:VX w0 w S r R gc c g v
 tape:TapeAt w t g u
 tS:S t
 tw:w0.heap.size<=t
 tc:gc≠t
 tg:t≠g
namespace TX
variable {w0 w w':World} {S T:Nat->Prop} {r g g' gc t t' u:Nat} {R R':Rck} {c:Cfg} {v v':Vol} {L:List (List (List Nat))} {a:Option Addr} {cp:Nat}
theorem rack (h:TX w0 w S r R gc c g v t u):RackAt S w r R:=h.vx.rack
theorem ext (h:TX w0 w S r R gc c g v t u):Ext w0 w:=h.vx.ext
theorem more (h:TX w0 w S r R gc c g v t u) (e:Ext w w'):TX w0 w' S r R gc c g v t u:=⟨h.vx.more e,h.tape.ext e,h.tS,h.tw,h.tc,h.tg⟩
theorem app {q:TApp} {e:Ending} (h:TX w0 w S r R gc c g v t u) (hc:TAppPost S w r g t u q e w'):TX w0 w' S r q.R gc c g q.v t q.used :=
 ⟨⟨⟨hc.rack,Ext.then h.ext hc.only (fun b hb z=>by
  rcases z with z | z | z
  ·
   exact z (h.vx.ve.low b hb)
  ·
   have:=h.vx.gw; omega
  ·
   have:=h.tw; omega),h.vx.ve.low⟩,hc.only.at h.vx.cfg (fun z=>by
  rcases z with z | z | z
  ·
   exact z h.vx.cfgS
  ·
   exact h.vx.ne z
  ·
   exact h.tc z),h.vx.cfgS,hc.vol,h.vx.gS,h.vx.gw,h.vx.ne⟩,hc.tape,h.tS,h.tw,h.tc,h.tg⟩
theorem app_keep {q:TApp} {e:Ending} (hc:TAppPost S w r g t u q e w'):∀ b,S b/\b≠g/\b≠t->¬(¬S b\/b=g\/b=t):=fun b hb z=>by
 rcases z with z | z | z
 ·
  exact z hb.1
 ·
  exact hb.2.1 z
 ·
  exact hb.2.2 z
theorem start {e:Ending} (h:VE w0 w S r R) (hcb:CBlkAt w gc c) (hcS:S gc) (ho:TOpenOk S w r R' v L e w' g t T a cp):TX w0 w' T r R' gc c g v t L.length :=
 ⟨⟨⟨ho.rack,Ext.then h.ext ho.keep (fun b hb q=>q (h.low b hb)),fun b hb=>ho.low b (h.low b hb)⟩,ho.keep.at hcb (fun q=>q hcS),ho.low gc hcS,ho.vol,ho.gT,Nat.le_trans h.ext.size ho.newg,fun q=>by have:=lt_of_block hcb; have:=ho.newg; omega⟩,ho.tape,ho.tT,Nat.le_trans h.ext.size ho.newt,fun q=>by have:=lt_of_block hcb; have:=ho.newt; omega,ho.ne⟩
theorem opened {e:Ending} (h:TX w0 w S r R gc c g v t u) (ho:TOpenOk S w r R' v' L e w' g' t' T a cp):TX w0 w' T r R' gc c g' v' t' L.length:=start h.vx.ve h.vx.cfg h.vx.cfgS ho
end TX
theorem TapesAt.of2 {w:World} {g:Nat} {p q:Option Addr} {l m:List (List Nat)} {cp cq:Nat} (h0:w.cell? ⟨g,0,none⟩=some (.slice p l.length cp)) (h1:w.cell? ⟨g,1,none⟩=some (.slice q m.length cq)) (hl:EntsAt w p l) (hm:EntsAt w q m) (hll:l.length<=1000) (hml:m.length<=1000):TapesAt w (some ⟨g,0,none⟩) [l,m]:=fun i x hx=>by
 rcases i with _ | _ | i
 ·
  cases hx; exact ⟨g,0,p,cp,rfl,h0,by omega,hl⟩
 ·
  cases hx; exact ⟨g,0,q,cq,rfl,h1,by omega,hm⟩
 ·
  simp at hx
theorem EntsAt.take {w:World} {a:Option Addr} {l:List (List Nat)} (h:EntsAt w a l) (n:Nat):EntsAt w a (l.take n):=fun i x hx=>by
 rw [List.getElem?_take] at hx
 split at hx
 ·
  exact h i x hx
 ·
  cases hx
theorem EntsIn.take {S:Nat->Prop} {w:World} {a:Option Addr} {l:List (List Nat)} (h:EntsIn S w a l) (n:Nat):EntsIn S w a (l.take n):=fun i x hx=>by
 rw [List.getElem?_take] at hx
 split at hx
 ·
  exact h i x hx
 ·
  cases hx
theorem bytes_at {w:World} {b:Nat} {l:List Nat} {T:TypeId} {fz:Nat × Nat} (h:w.heap[b]?=some (.cells (bA l) T fz)) (hb:∀ x∈l,x < 256) (hl:l.length<=1000):BytesAt w (some ⟨b,0,none⟩) l.length l :=
 ⟨rfl,by omega,hb,.inr ⟨b,0,rfl,fun i hi=>by rw [Zaf h,Nat.zero_add,Zbf l i hi]⟩⟩
end Go.Proofs.YtgjnnbomnoafcaaGreat
namespace Go.Proofs.YtgjnnbomnoafcaaGreat
set_option linter.unusedVariables false
structure TI (c:Cfg) (cur:Int) (j:Nat->Option Rcd) (f:Strs) (L:List (List (List Nat))):Prop where
 vi:VI c cur j f
 le:L.length<=c.stripes.toNat
 has:∀ t es,L[t]?=some es->Tp.fits c.k.toNat es/\(∀ x∈es,∀ y∈x,y < 256)/\∃ gen:Int,2<=gen/\f t=some (gen,Tp.chunks c.k.toNat (Tp.pack es))
 rest:∀ t,L.length<=t->t < c.stripes.toNat->f t=some (1,zblks c.k.toNat)
section
variable {R:Rck} {c:Cfg} {m:Nat} {cur:Int} {j:Nat->Option Rcd} {f:Strs} {L:List (List (List Nat))}
theorem TI.new (hc:c.Good):TI c 1 (VH.jNew c) (VH.fNew c) [] :=
 ⟨VI.new hc,Nat.zero_le _,fun t es h=>by simp at h,fun t _ ht=>by unfold VH.fNew; rw [if_pos ht]⟩
theorem TI.put (h:TI c cur j f L) {cur':Int} {j':Nat->Option Rcd} {es:List (List Nat)} (hv:VI c cur' j' (updS f L.length (cur+1,Tp.chunks c.k.toNat (Tp.pack es)))) (hlt:L.length < c.stripes.toNat) (hf:Tp.fits c.k.toNat es) (hb:∀ x∈es,∀ y∈x,y < 256):TI c cur' j' (updS f L.length (cur+1,Tp.chunks c.k.toNat (Tp.pack es))) (L++[es]):=by
 have h1:=h.vi.vv.cur
 refine ⟨hv,by rw [List.length_append]; exact hlt,fun t xs ht=>?_,fun t h2 h3=>?_⟩
 ·
  rcases Nat.lt_or_ge t L.length with q | q
  ·
   rw [List.getElem?_append_left q] at ht
   obtain ⟨a1,a2,gen,a3,a4⟩:=h.has t xs ht
   exact ⟨a1,a2,gen,a3,by rw [Zbh f _ (by omega)]; exact a4⟩
  ·
   rw [List.getElem?_append_right q] at ht
   have h5:t - L.length=0:=by
    have:=(List.getElem?_eq_some_iff.1 ht).1
    simp at this; omega
   rw [h5] at ht
   have h6:t=L.length:=by omega
   simp at ht
   subst ht; subst h6
   exact ⟨hf,hb,cur+1,by omega,Zb3 _ _ _⟩
 ·
  rw [List.length_append] at h2
  rw [Zbh f _ (by simp at h2; omega)]
  exact h.rest t (by simp at h2; omega) h3
theorem TI.cur_mono (h:TI c cur j f L) {cur':Int} {j':Nat->Option Rcd} (hv:VI c cur' j' f):TI c cur' j' f L:=⟨hv,h.le,h.has,h.rest⟩
theorem TI.append_f (h:TI c cur j f L) (hh:VH R c m true j f) (hm:(m:Int)=c.sectors) (k4:c.k<=4) (n6:c.n<=6) (hcur:cur < 1152921504606846976) (hlt:L.length < c.stripes.toNat) {es:List (List Nat)} (hf:Tp.fits c.k.toNat es) (hb:∀ x∈es,∀ y∈x,y < 256) :
  ∃ R' j',Vol.tappend ⟨c,cur,false⟩ R L.length es=⟨none,R',⟨c,cur+1,false⟩,L.length+1⟩/\VH R' c m true j' (updS f L.length (cur+1,Tp.chunks c.k.toNat (Tp.pack es)))/\TI c (cur+1) j' (updS f L.length (cur+1,Tp.chunks c.k.toNat (Tp.pack es))) (L++[es]):=by
 obtain ⟨a,R',hcm,h3,v3⟩:=hh.commit_on h.vi hm k4 n6 hcur (s:=L.length) hlt (l:=Tp.chunks c.k.toNat (Tp.pack es)) (Tp.chunks_blocks (Tp.pack_byte hb))
 refine ⟨R',_,?_,h3,h.put v3 hlt hf hb⟩
 unfold Vol.tappend
 have hst:=hh.good.st0
 simp only
 rw [if_pos hf,if_neg (by omega),hcm]
theorem TI.append (h:TI c cur j f L) (hh:VH R c m true j f) (hm:(m:Int)=c.sectors) (k4:c.k<=4) (n6:c.n<=6) (hcur:cur < 1152921504606846976) (hlt:L.length < c.stripes.toNat) {es:List (List Nat)} (hf:Tp.fits c.k.toNat es) (hb:∀ x∈es,∀ y∈x,y < 256) :
  ∃ R' j' f',Vol.tappend ⟨c,cur,false⟩ R L.length es=⟨none,R',⟨c,cur+1,false⟩,L.length+1⟩/\VH R' c m true j' f'/\TI c (cur+1) j' f' (L++[es]):=by
 obtain ⟨R',j',a1,a2,a3⟩:=h.append_f hh hm k4 n6 hcur hlt hf hb
 exact ⟨R',j',_,a1,a2,a3⟩
theorem TI.scan (h:TI c cur j f L) (hk:c.k.toNat<=8) {rd:Nat->List (List Nat) × Int × Option Err} {N:Nat} (hN:N<=c.stripes.toNat) (hrd:∀ t,t < N->∃ y,f t=some y/\rd t=(y.2,y.1,none)):∀ n,n<=N->tscan rd n=(none,L.take n)
 | 0,_=>by simp [tscan]
 | n+1,hn=>by
  have ih:=TI.scan h hk hN hrd n (by omega)
  obtain ⟨y,h1,h2⟩:=hrd n (by omega)
  show (match tscan rd n with | (some e,L)=>(some e,L) | (none,L)=>_)=_
  rw [ih]
  show (match (rd n).2.2 with | some e=>_ | none=>_:Option Err × List (List (List Nat)))=_
  rw [h2]
  rcases Nat.lt_or_ge n L.length with q | q
  ·
   obtain ⟨es,hes⟩:∃ es,L[n]?=some es:=⟨_,List.getElem?_eq_getElem q⟩
   obtain ⟨a1,_,gen,a2,a3⟩:=h.has n es hes
   rw [a3] at h1
   cases h1
   show (if gen=1 then (none,L.take n) else if n=(L.take n).length then (none,L.take n++[Tp.empty (Tp.chunks c.k.toNat (Tp.pack es))]) else _)=_
   rw [if_neg (by omega),if_pos (by rw [List.length_take]; omega),Tp.empty_fill hk a1,List.take_add_one,hes]
   rfl
  ·
   rw [h.rest n q (by omega)] at h1
   cases h1
   show (if (1:Int)=1 then (none,L.take n) else _)=_
   rw [if_pos rfl,List.take_of_length_le q,List.take_of_length_le (by omega)]
end
def ReadsOk (R:Rck):Prop:=∀ R' c cur,R.vopen=(none,R',c,cur)->c.Good/\∀ s:Nat,s < c.stripes.toNat->∀ l gen,Vol.read ⟨c,cur,false⟩ R' (s:Int)=(l,gen,none)->l≠[]/\l.length<=8/\(∀ b∈l,b.length=108)/\∀ b∈l,∀ x∈b,x < 256
theorem Cd.Blocks.four {k:Nat} {l:List (List Nat)} (h:Cd.Blocks k 108 l) (k1:1<=k) (k8:k<=8):l≠[]/\l.length<=8/\(∀ b∈l,b.length=108)/\∀ b∈l,∀ x∈b,x < 256 :=
 ⟨fun q=>by have:=h.n; rw [q] at this; simp at this; omega,by rw [h.n]; exact k8,fun b hb=>h.mem_len hb,fun b hb=>h.mem_byte hb⟩
theorem reads_ok {R R':Rck} {c:Cfg} {cur:Int} (hop:R.vopen=(none,R',c,cur)) (hc:c.Good) (hrd:∀ t:Nat,t < c.stripes.toNat->∀ l gen,R'.sget c (t:Int)=(l,gen,none)->Cd.Blocks c.k.toNat 108 l):ReadsOk R:=fun R2 c2 cur2 h=>by
 rw [hop] at h
 cases h
 refine ⟨hc,fun s hs l gen hr=>?_⟩
 have hk0:=hc.k0; have hk1:=hc.k1; have hn1:=hc.n1
 unfold Vol.read at hr
 simp only [Bool.false_eq_true,if_false] at hr
 rcases hg:R'.sget c (s:Int) with ⟨l',g',o'⟩
 rw [hg] at hr
 rcases o' with _ | e
 ·
  cases hr
  exact (hrd s hs _ _ hg).four (by omega) (by omega)
 ·
  cases hr
theorem topen_of {R R':Rck} {c:Cfg} {cur:Int} (hop:R.vopen=(none,R',c,cur)):R.topen=((tscan (fun s=>Vol.read ⟨c,cur,false⟩ R' (s:Int)) c.stripes.toNat).1,R',⟨c,cur,false⟩,(tscan (fun s=>Vol.read ⟨c,cur,false⟩ R' (s:Int)) c.stripes.toNat).2):=by
 unfold Rck.topen; rw [hop]
section
variable {R R':Rck} {c:Cfg} {m:Nat} {cur cur':Int} {j:Nat->Option Rcd} {f:Strs} {L:List (List (List Nat))}
theorem TI.topen (h:TI c cur j f L) (hc:c.Good) (hop:R.vopen=(none,R',c,cur')) (hrd:∀ t,t < c.stripes.toNat->∃ y,f t=some y/\SFit c t y.1 y.2/\R'.sget c (t:Int)=(y.2,y.1,none)):R.topen=(none,R',⟨c,cur',false⟩,L)/\ReadsOk R:=by
 have hk0:=hc.k0; have hk1:=hc.k1; have hn1:=hc.n1
 refine ⟨?_,reads_ok hop hc fun t ht l gen q=>?_⟩
 ·
  rw [topen_of hop,h.scan (by omega) (Nat.le_refl _) (fun t ht=>?_) c.stripes.toNat (Nat.le_refl _),List.take_of_length_le h.le]
  obtain ⟨y,h1,_,h2⟩:=hrd t ht
  exact ⟨y,h1,Vol.read_of h2 cur'⟩
 ·
  obtain ⟨y,h1,h3,h2⟩:=hrd t ht
  rw [h2] at q; cases q
  exact h3.bl
theorem TI.again (h:TI c cur j f L) (hh:VH R c m true j f) (k4:c.k<=4) (n6:c.n<=6):∃ R' cur',R.topen=(none,R',⟨c,cur',false⟩,L)/\ReadsOk R/\VH R' c m true j f/\TI c cur' j f L/\cur'<=cur:=by
 obtain ⟨R',cur',hop,hh',hv',hle⟩:=hh.again h.vi k4 n6
 obtain ⟨e1,e2⟩:=h.topen hh.good hop fun t ht=>by
  obtain ⟨g,l,e,hx,_⟩:=h.vi.vv.str t ht
  exact ⟨(g,l),e,hx,hh'.sget k4 n6 e hx⟩
 exact ⟨R',cur',e1,e2,hh',h.cur_mono hv',hle⟩
theorem TI.start {c:Cfg} (hc:c.Good) (k4:c.k<=4) (n6:c.n<=6) {m:Nat} (hm:c.sectors<=(m:Int)):∃ R1 R2,(Rck.new c.n.toNat m).vmake c=(none,R1)/\R1.topen=(none,R2,⟨c,1,false⟩,[])/\ReadsOk R1/\VH R2 c m true (VH.jNew c) (VH.fNew c)/\TI c 1 (VH.jNew c) (VH.fNew c) []:=by
 obtain ⟨R1,R2,e1,e2,h2,v2⟩:=VH.start hc k4 n6 hm
 obtain ⟨a1,a2⟩:=(TI.new hc).topen hc e2 fun t ht=>by
  obtain ⟨g,l,e,hx,_⟩:=v2.str t ht
  exact ⟨(g,l),e,hx,h2.sget k4 n6 e hx⟩
 exact ⟨R1,R2,e1,a1,a2,h2,TI.new hc⟩
end
end Go.Proofs.YtgjnnbomnoafcaaGreat
