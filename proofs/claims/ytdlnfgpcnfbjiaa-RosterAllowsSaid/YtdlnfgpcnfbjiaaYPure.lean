/- Plain functions: what the program's functions answer, printed out of their code; kinds of their data. No condition. -/
import Derived.Test.YtdlnfgpcnfbjiaaKx23
namespace Go.Proofs.Pure
open Go Go.RowKit Go.Proofs.Kit
set_option linter.unusedVariables false

structure api_Head where
  Pub : (List Int)
  N : Int
  Prev : Int
  deriving DecidableEq
def t_api_Head (x : api_Head) : (List Int) × Int × Int × Unit := (x.Pub, x.N, x.Prev, ())
theorem t_api_Head_inj (x y : api_Head) (h : t_api_Head x = t_api_Head y) : x = y := by cases x; cases y; simpa [t_api_Head] using h
def k_api_Head : Kd api_Head := kiso (kpair (karr 32 (kint .u8)) (kpair (kint .u32) (kpair (kint .u32) knil))) t_api_Head
theorem lg_api_Head_Pub (x : api_Head) : LG k_api_Head (karr 32 (kint .u8)) 0 x x.Pub := LG.iso (LG.fst _ _ _)
theorem ls_api_Head_Pub (x : api_Head) (y : (List Int)) : LS k_api_Head (karr 32 (kint .u8)) 0 x y { x with Pub := y } := LS.iso (LS.fst _ _ _ _)
theorem lg_api_Head_N (x : api_Head) : LG k_api_Head (kint .u32) 32 x x.N := LG.iso (LG.snd _ (LG.fst _ _ _))
theorem ls_api_Head_N (x : api_Head) (y : Int) : LS k_api_Head (kint .u32) 32 x y { x with N := y } := LS.iso (LS.snd _ (LS.fst _ _ _ _))
theorem lg_api_Head_Prev (x : api_Head) : LG k_api_Head (kint .u32) 33 x x.Prev := LG.iso (LG.snd _ (LG.snd _ (LG.fst _ _ _)))
theorem ls_api_Head_Prev (x : api_Head) (y : Int) : LS k_api_Head (kint .u32) 33 x y { x with Prev := y } := LS.iso (LS.snd _ (LS.snd _ (LS.fst _ _ _ _)))
structure api_Box where
  To : Int
  Head : api_Head
  Body : (List Int)
  deriving DecidableEq
def t_api_Box (x : api_Box) : Int × api_Head × (List Int) × Unit := (x.To, x.Head, x.Body, ())
theorem t_api_Box_inj (x y : api_Box) (h : t_api_Box x = t_api_Box y) : x = y := by cases x; cases y; simpa [t_api_Box] using h
def k_api_Box : Kd api_Box := kiso (kpair (kint .i64) (kpair k_api_Head (kpair kstr knil))) t_api_Box
theorem lg_api_Box_To (x : api_Box) : LG k_api_Box (kint .i64) 0 x x.To := LG.iso (LG.fst _ _ _)
theorem ls_api_Box_To (x : api_Box) (y : Int) : LS k_api_Box (kint .i64) 0 x y { x with To := y } := LS.iso (LS.fst _ _ _ _)
theorem lg_api_Box_Head (x : api_Box) : LG k_api_Box k_api_Head 1 x x.Head := LG.iso (LG.snd _ (LG.fst _ _ _))
theorem ls_api_Box_Head (x : api_Box) (y : api_Head) : LS k_api_Box k_api_Head 1 x y { x with Head := y } := LS.iso (LS.snd _ (LS.fst _ _ _ _))
theorem lg_api_Box_Body (x : api_Box) : LG k_api_Box kstr 35 x x.Body := LG.iso (LG.snd _ (LG.snd _ (LG.fst _ _ _)))
theorem ls_api_Box_Body (x : api_Box) (y : (List Int)) : LS k_api_Box kstr 35 x y { x with Body := y } := LS.iso (LS.snd _ (LS.snd _ (LS.fst _ _ _ _)))
structure api_Op where
  Author : Int
  Seq : Int
  Parents : (List (List Int))
  Kind : Int
  Who : (List Int)
  Of : (List Int)
  Check : (List Int)
  Text : (List Int)
  Boxes : (List api_Box)
  deriving DecidableEq
def t_api_Op (x : api_Op) : Int × Int × (List (List Int)) × Int × (List Int) × (List Int) × (List Int) × (List Int) × (List api_Box) × Unit := (x.Author, x.Seq, x.Parents, x.Kind, x.Who, x.Of, x.Check, x.Text, x.Boxes, ())
theorem t_api_Op_inj (x y : api_Op) (h : t_api_Op x = t_api_Op y) : x = y := by cases x; cases y; simpa [t_api_Op] using h
def k_api_Op : Kd api_Op := kiso (kpair (kint .i64) (kpair (kint .u32) (kpair (ksl (karr 32 (kint .u8))) (kpair (kint .i64) (kpair (ksl (kint .i64)) (kpair (karr 32 (kint .u8)) (kpair (karr 32 (kint .u8)) (kpair kstr (kpair (ksl k_api_Box) knil))))))))) t_api_Op
theorem lg_api_Op_Author (x : api_Op) : LG k_api_Op (kint .i64) 0 x x.Author := LG.iso (LG.fst _ _ _)
theorem ls_api_Op_Author (x : api_Op) (y : Int) : LS k_api_Op (kint .i64) 0 x y { x with Author := y } := LS.iso (LS.fst _ _ _ _)
theorem lg_api_Op_Seq (x : api_Op) : LG k_api_Op (kint .u32) 1 x x.Seq := LG.iso (LG.snd _ (LG.fst _ _ _))
theorem ls_api_Op_Seq (x : api_Op) (y : Int) : LS k_api_Op (kint .u32) 1 x y { x with Seq := y } := LS.iso (LS.snd _ (LS.fst _ _ _ _))
theorem lg_api_Op_Parents (x : api_Op) : LG k_api_Op (ksl (karr 32 (kint .u8))) 2 x x.Parents := LG.iso (LG.snd _ (LG.snd _ (LG.fst _ _ _)))
theorem ls_api_Op_Parents (x : api_Op) (y : (List (List Int))) : LS k_api_Op (ksl (karr 32 (kint .u8))) 2 x y { x with Parents := y } := LS.iso (LS.snd _ (LS.snd _ (LS.fst _ _ _ _)))
theorem lg_api_Op_Kind (x : api_Op) : LG k_api_Op (kint .i64) 3 x x.Kind := LG.iso (LG.snd _ (LG.snd _ (LG.snd _ (LG.fst _ _ _))))
theorem ls_api_Op_Kind (x : api_Op) (y : Int) : LS k_api_Op (kint .i64) 3 x y { x with Kind := y } := LS.iso (LS.snd _ (LS.snd _ (LS.snd _ (LS.fst _ _ _ _))))
theorem lg_api_Op_Who (x : api_Op) : LG k_api_Op (ksl (kint .i64)) 4 x x.Who := LG.iso (LG.snd _ (LG.snd _ (LG.snd _ (LG.snd _ (LG.fst _ _ _)))))
theorem ls_api_Op_Who (x : api_Op) (y : (List Int)) : LS k_api_Op (ksl (kint .i64)) 4 x y { x with Who := y } := LS.iso (LS.snd _ (LS.snd _ (LS.snd _ (LS.snd _ (LS.fst _ _ _ _)))))
theorem lg_api_Op_Of (x : api_Op) : LG k_api_Op (karr 32 (kint .u8)) 5 x x.Of := LG.iso (LG.snd _ (LG.snd _ (LG.snd _ (LG.snd _ (LG.snd _ (LG.fst _ _ _))))))
theorem ls_api_Op_Of (x : api_Op) (y : (List Int)) : LS k_api_Op (karr 32 (kint .u8)) 5 x y { x with Of := y } := LS.iso (LS.snd _ (LS.snd _ (LS.snd _ (LS.snd _ (LS.snd _ (LS.fst _ _ _ _))))))
theorem lg_api_Op_Check (x : api_Op) : LG k_api_Op (karr 32 (kint .u8)) 37 x x.Check := LG.iso (LG.snd _ (LG.snd _ (LG.snd _ (LG.snd _ (LG.snd _ (LG.snd _ (LG.fst _ _ _)))))))
theorem ls_api_Op_Check (x : api_Op) (y : (List Int)) : LS k_api_Op (karr 32 (kint .u8)) 37 x y { x with Check := y } := LS.iso (LS.snd _ (LS.snd _ (LS.snd _ (LS.snd _ (LS.snd _ (LS.snd _ (LS.fst _ _ _ _)))))))
theorem lg_api_Op_Text (x : api_Op) : LG k_api_Op kstr 69 x x.Text := LG.iso (LG.snd _ (LG.snd _ (LG.snd _ (LG.snd _ (LG.snd _ (LG.snd _ (LG.snd _ (LG.fst _ _ _))))))))
theorem ls_api_Op_Text (x : api_Op) (y : (List Int)) : LS k_api_Op kstr 69 x y { x with Text := y } := LS.iso (LS.snd _ (LS.snd _ (LS.snd _ (LS.snd _ (LS.snd _ (LS.snd _ (LS.snd _ (LS.fst _ _ _ _))))))))
theorem lg_api_Op_Boxes (x : api_Op) : LG k_api_Op (ksl k_api_Box) 70 x x.Boxes := LG.iso (LG.snd _ (LG.snd _ (LG.snd _ (LG.snd _ (LG.snd _ (LG.snd _ (LG.snd _ (LG.snd _ (LG.fst _ _ _)))))))))
theorem ls_api_Op_Boxes (x : api_Op) (y : (List api_Box)) : LS k_api_Op (ksl k_api_Box) 70 x y { x with Boxes := y } := LS.iso (LS.snd _ (LS.snd _ (LS.snd _ (LS.snd _ (LS.snd _ (LS.snd _ (LS.snd _ (LS.snd _ (LS.fst _ _ _ _)))))))))
structure api_Node where
  Id : (List Int)
  Op : api_Op
  Past : (List Int)
  deriving DecidableEq
def t_api_Node (x : api_Node) : (List Int) × api_Op × (List Int) × Unit := (x.Id, x.Op, x.Past, ())
theorem t_api_Node_inj (x y : api_Node) (h : t_api_Node x = t_api_Node y) : x = y := by cases x; cases y; simpa [t_api_Node] using h
def k_api_Node : Kd api_Node := kiso (kpair (karr 32 (kint .u8)) (kpair k_api_Op (kpair (ksl (kint .i64)) knil))) t_api_Node
theorem lg_api_Node_Id (x : api_Node) : LG k_api_Node (karr 32 (kint .u8)) 0 x x.Id := LG.iso (LG.fst _ _ _)
theorem ls_api_Node_Id (x : api_Node) (y : (List Int)) : LS k_api_Node (karr 32 (kint .u8)) 0 x y { x with Id := y } := LS.iso (LS.fst _ _ _ _)
theorem lg_api_Node_Op (x : api_Node) : LG k_api_Node k_api_Op 32 x x.Op := LG.iso (LG.snd _ (LG.fst _ _ _))
theorem ls_api_Node_Op (x : api_Node) (y : api_Op) : LS k_api_Node k_api_Op 32 x y { x with Op := y } := LS.iso (LS.snd _ (LS.fst _ _ _ _))
theorem lg_api_Node_Past (x : api_Node) : LG k_api_Node (ksl (kint .i64)) 103 x x.Past := LG.iso (LG.snd _ (LG.snd _ (LG.fst _ _ _)))
theorem ls_api_Node_Past (x : api_Node) (y : (List Int)) : LS k_api_Node (ksl (kint .i64)) 103 x y { x with Past := y } := LS.iso (LS.snd _ (LS.snd _ (LS.fst _ _ _ _)))
structure roster_book where
  l : (List api_Node)
  counts : (List Bool)
  in_ : Unit
  deriving DecidableEq
def t_roster_book (x : roster_book) : (List api_Node) × (List Bool) × Unit × Unit := (x.l, x.counts, x.in_, ())
theorem t_roster_book_inj (x y : roster_book) (h : t_roster_book x = t_roster_book y) : x = y := by cases x; cases y; simpa [t_roster_book] using h
def k_roster_book : Kd roster_book := kiso (kpair (ksl k_api_Node) (kpair (ksl kbool) (kpair (kis (.func (.func 131) #[] #[])) knil))) t_roster_book
theorem lg_roster_book_l (x : roster_book) : LG k_roster_book (ksl k_api_Node) 0 x x.l := LG.iso (LG.fst _ _ _)
theorem ls_roster_book_l (x : roster_book) (y : (List api_Node)) : LS k_roster_book (ksl k_api_Node) 0 x y { x with l := y } := LS.iso (LS.fst _ _ _ _)
theorem lg_roster_book_counts (x : roster_book) : LG k_roster_book (ksl kbool) 1 x x.counts := LG.iso (LG.snd _ (LG.fst _ _ _))
theorem ls_roster_book_counts (x : roster_book) (y : (List Bool)) : LS k_roster_book (ksl kbool) 1 x y { x with counts := y } := LS.iso (LS.snd _ (LS.fst _ _ _ _))
theorem lg_roster_book_in_ (x : roster_book) : LG k_roster_book (kis (.func (.func 131) #[] #[])) 2 x x.in_ := LG.iso (LG.snd _ (LG.snd _ (LG.fst _ _ _)))
theorem ls_roster_book_in_ (x : roster_book) (y : Unit) : LS k_roster_book (kis (.func (.func 131) #[] #[])) 2 x y { x with in_ := y } := LS.iso (LS.snd _ (LS.snd _ (LS.fst _ _ _ _)))
structure api_Key_ where
  l : (List (List Int))
  order : Unit
  deriving DecidableEq
def t_api_Key_ (x : api_Key_) : (List (List Int)) × Unit × Unit := (x.l, x.order, ())
theorem t_api_Key__inj (x y : api_Key_) (h : t_api_Key_ x = t_api_Key_ y) : x = y := by cases x; cases y; simpa [t_api_Key_] using h
def k_api_Key_ : Kd api_Key_ := kiso (kpair (ksl (karr 32 (kint .u8))) (kpair (kis (.func (.func 137) #[] #[])) knil)) t_api_Key_
theorem lg_api_Key__l (x : api_Key_) : LG k_api_Key_ (ksl (karr 32 (kint .u8))) 0 x x.l := LG.iso (LG.fst _ _ _)
theorem ls_api_Key__l (x : api_Key_) (y : (List (List Int))) : LS k_api_Key_ (ksl (karr 32 (kint .u8))) 0 x y { x with l := y } := LS.iso (LS.fst _ _ _ _)
theorem lg_api_Key__order (x : api_Key_) : LG k_api_Key_ (kis (.func (.func 137) #[] #[])) 1 x x.order := LG.iso (LG.snd _ (LG.fst _ _ _))
theorem ls_api_Key__order (x : api_Key_) (y : Unit) : LS k_api_Key_ (kis (.func (.func 137) #[] #[])) 1 x y { x with order := y } := LS.iso (LS.snd _ (LS.fst _ _ _ _))
structure frame_row_int_ where
  l : (List Int)
  order : Unit
  deriving DecidableEq
def t_frame_row_int_ (x : frame_row_int_) : (List Int) × Unit × Unit := (x.l, x.order, ())
theorem t_frame_row_int__inj (x y : frame_row_int_) (h : t_frame_row_int_ x = t_frame_row_int_ y) : x = y := by cases x; cases y; simpa [t_frame_row_int_] using h
def k_frame_row_int_ : Kd frame_row_int_ := kiso (kpair (ksl (kint .i64)) (kpair (kis (.func (.func 155) #[] #[])) knil)) t_frame_row_int_
theorem lg_frame_row_int__l (x : frame_row_int_) : LG k_frame_row_int_ (ksl (kint .i64)) 0 x x.l := LG.iso (LG.fst _ _ _)
theorem ls_frame_row_int__l (x : frame_row_int_) (y : (List Int)) : LS k_frame_row_int_ (ksl (kint .i64)) 0 x y { x with l := y } := LS.iso (LS.fst _ _ _ _)
theorem lg_frame_row_int__order (x : frame_row_int_) : LG k_frame_row_int_ (kis (.func (.func 155) #[] #[])) 1 x x.order := LG.iso (LG.snd _ (LG.fst _ _ _))
theorem ls_frame_row_int__order (x : frame_row_int_) (y : Unit) : LS k_frame_row_int_ (kis (.func (.func 155) #[] #[])) 1 x y { x with order := y } := LS.iso (LS.snd _ (LS.fst _ _ _ _))
structure api_Box_ where
  l : (List api_Box)
  order : Unit
  deriving DecidableEq
def t_api_Box_ (x : api_Box_) : (List api_Box) × Unit × Unit := (x.l, x.order, ())
theorem t_api_Box__inj (x y : api_Box_) (h : t_api_Box_ x = t_api_Box_ y) : x = y := by cases x; cases y; simpa [t_api_Box_] using h
def k_api_Box_ : Kd api_Box_ := kiso (kpair (ksl k_api_Box) (kpair (kis (.func (.func 158) #[] #[])) knil)) t_api_Box_
theorem lg_api_Box__l (x : api_Box_) : LG k_api_Box_ (ksl k_api_Box) 0 x x.l := LG.iso (LG.fst _ _ _)
theorem ls_api_Box__l (x : api_Box_) (y : (List api_Box)) : LS k_api_Box_ (ksl k_api_Box) 0 x y { x with l := y } := LS.iso (LS.fst _ _ _ _)
theorem lg_api_Box__order (x : api_Box_) : LG k_api_Box_ (kis (.func (.func 158) #[] #[])) 1 x x.order := LG.iso (LG.snd _ (LG.fst _ _ _))
theorem ls_api_Box__order (x : api_Box_) (y : Unit) : LS k_api_Box_ (kis (.func (.func 158) #[] #[])) 1 x y { x with order := y } := LS.iso (LS.snd _ (LS.fst _ _ _ _))
def to_api_Key__1 (x : api_Key_) : (List (List Int)) × Unit × Unit := (x.l, (), ())
def ko_api_Key__1 (v1 : Value) : Kd api_Key_ := kiso (kpair (ksl (karr 32 (kint .u8))) (kpair (kis v1) knil)) to_api_Key__1
theorem lgo_api_Key__1_l {v1 : Value} (x : api_Key_) : LG (ko_api_Key__1 v1) (ksl (karr 32 (kint .u8))) 0 x x.l := LG.iso (LG.fst _ _ _)
theorem lso_api_Key__1_l {v1 : Value} (x : api_Key_) (y : (List (List Int))) : LS (ko_api_Key__1 v1) (ksl (karr 32 (kint .u8))) 0 x y { x with l := y } := LS.iso (LS.fst _ _ _ _)
theorem lgo_api_Key__1_order {v1 : Value} (x : api_Key_) : LG (ko_api_Key__1 v1) (kis v1) 1 x () := LG.iso (LG.snd _ (LG.fst _ _ _))
theorem upo_api_Key__1 {H : Ok → World → Prop} {v1 : Value} {x x' : api_Key_} (hx : to_api_Key__1 x = to_api_Key__1 x') (u1 : Up H (kis v1) (kis (.func (.func 137) #[] #[])) () x'.order) : Up H (ko_api_Key__1 v1) k_api_Key_ x x' := fun ok w cs hH hr => by
  have hr' : Kd.rel (kpair (ksl (karr 32 (kint .u8))) (kpair (kis v1) knil)) ok w (to_api_Key__1 x) cs := hr
  rw [hx] at hr'
  exact (Up.pair (Up.refl _ _) (Up.pair u1 (Up.refl _ _)) : Up H (kpair (ksl (karr 32 (kint .u8))) (kpair (kis v1) knil)) (kpair (ksl (karr 32 (kint .u8))) (kpair (kis (.func (.func 137) #[] #[])) knil)) (to_api_Key__1 x') (t_api_Key_ x')) ok w cs hH hr'
def to_frame_row_int__1 (x : frame_row_int_) : (List Int) × Unit × Unit := (x.l, (), ())
def ko_frame_row_int__1 (v1 : Value) : Kd frame_row_int_ := kiso (kpair (ksl (kint .i64)) (kpair (kis v1) knil)) to_frame_row_int__1
theorem lgo_frame_row_int__1_l {v1 : Value} (x : frame_row_int_) : LG (ko_frame_row_int__1 v1) (ksl (kint .i64)) 0 x x.l := LG.iso (LG.fst _ _ _)
theorem lso_frame_row_int__1_l {v1 : Value} (x : frame_row_int_) (y : (List Int)) : LS (ko_frame_row_int__1 v1) (ksl (kint .i64)) 0 x y { x with l := y } := LS.iso (LS.fst _ _ _ _)
theorem lgo_frame_row_int__1_order {v1 : Value} (x : frame_row_int_) : LG (ko_frame_row_int__1 v1) (kis v1) 1 x () := LG.iso (LG.snd _ (LG.fst _ _ _))
theorem upo_frame_row_int__1 {H : Ok → World → Prop} {v1 : Value} {x x' : frame_row_int_} (hx : to_frame_row_int__1 x = to_frame_row_int__1 x') (u1 : Up H (kis v1) (kis (.func (.func 155) #[] #[])) () x'.order) : Up H (ko_frame_row_int__1 v1) k_frame_row_int_ x x' := fun ok w cs hH hr => by
  have hr' : Kd.rel (kpair (ksl (kint .i64)) (kpair (kis v1) knil)) ok w (to_frame_row_int__1 x) cs := hr
  rw [hx] at hr'
  exact (Up.pair (Up.refl _ _) (Up.pair u1 (Up.refl _ _)) : Up H (kpair (ksl (kint .i64)) (kpair (kis v1) knil)) (kpair (ksl (kint .i64)) (kpair (kis (.func (.func 155) #[] #[])) knil)) (to_frame_row_int__1 x') (t_frame_row_int_ x')) ok w cs hH hr'
def to_api_Box__1 (x : api_Box_) : (List api_Box) × Unit × Unit := (x.l, (), ())
def ko_api_Box__1 (v1 : Value) : Kd api_Box_ := kiso (kpair (ksl k_api_Box) (kpair (kis v1) knil)) to_api_Box__1
theorem lgo_api_Box__1_l {v1 : Value} (x : api_Box_) : LG (ko_api_Box__1 v1) (ksl k_api_Box) 0 x x.l := LG.iso (LG.fst _ _ _)
theorem lso_api_Box__1_l {v1 : Value} (x : api_Box_) (y : (List api_Box)) : LS (ko_api_Box__1 v1) (ksl k_api_Box) 0 x y { x with l := y } := LS.iso (LS.fst _ _ _ _)
theorem lgo_api_Box__1_order {v1 : Value} (x : api_Box_) : LG (ko_api_Box__1 v1) (kis v1) 1 x () := LG.iso (LG.snd _ (LG.fst _ _ _))
theorem upo_api_Box__1 {H : Ok → World → Prop} {v1 : Value} {x x' : api_Box_} (hx : to_api_Box__1 x = to_api_Box__1 x') (u1 : Up H (kis v1) (kis (.func (.func 158) #[] #[])) () x'.order) : Up H (ko_api_Box__1 v1) k_api_Box_ x x' := fun ok w cs hH hr => by
  have hr' : Kd.rel (kpair (ksl k_api_Box) (kpair (kis v1) knil)) ok w (to_api_Box__1 x) cs := hr
  rw [hx] at hr'
  exact (Up.pair (Up.refl _ _) (Up.pair u1 (Up.refl _ _)) : Up H (kpair (ksl k_api_Box) (kpair (kis v1) knil)) (kpair (ksl k_api_Box) (kpair (kis (.func (.func 158) #[] #[])) knil)) (to_api_Box__1 x') (t_api_Box_ x')) ok w cs hH hr'
def to_roster_book_1_2 (x : roster_book) : (List api_Node) × Unit × Unit × Unit := (x.l, (), (), ())
def ko_roster_book_1_2 (v1 v2 : Value) : Kd roster_book := kiso (kpair (ksl k_api_Node) (kpair (kis v1) (kpair (kis v2) knil))) to_roster_book_1_2
theorem lgo_roster_book_1_2_l {v1 v2 : Value} (x : roster_book) : LG (ko_roster_book_1_2 v1 v2) (ksl k_api_Node) 0 x x.l := LG.iso (LG.fst _ _ _)
theorem lso_roster_book_1_2_l {v1 v2 : Value} (x : roster_book) (y : (List api_Node)) : LS (ko_roster_book_1_2 v1 v2) (ksl k_api_Node) 0 x y { x with l := y } := LS.iso (LS.fst _ _ _ _)
theorem lgo_roster_book_1_2_counts {v1 v2 : Value} (x : roster_book) : LG (ko_roster_book_1_2 v1 v2) (kis v1) 1 x () := LG.iso (LG.snd _ (LG.fst _ _ _))
theorem lgo_roster_book_1_2_in_ {v1 v2 : Value} (x : roster_book) : LG (ko_roster_book_1_2 v1 v2) (kis v2) 2 x () := LG.iso (LG.snd _ (LG.snd _ (LG.fst _ _ _)))
theorem upo_roster_book_1_2 {H : Ok → World → Prop} {v1 v2 : Value} {x x' : roster_book} (hx : to_roster_book_1_2 x = to_roster_book_1_2 x') (u1 : Up H (kis v1) (ksl kbool) () x'.counts) (u2 : Up H (kis v2) (kis (.func (.func 131) #[] #[])) () x'.in_) : Up H (ko_roster_book_1_2 v1 v2) k_roster_book x x' := fun ok w cs hH hr => by
  have hr' : Kd.rel (kpair (ksl k_api_Node) (kpair (kis v1) (kpair (kis v2) knil))) ok w (to_roster_book_1_2 x) cs := hr
  rw [hx] at hr'
  exact (Up.pair (Up.refl _ _) (Up.pair u1 (Up.pair u2 (Up.refl _ _))) : Up H (kpair (ksl k_api_Node) (kpair (kis v1) (kpair (kis v2) knil))) (kpair (ksl k_api_Node) (kpair (ksl kbool) (kpair (kis (.func (.func 131) #[] #[])) knil))) (to_roster_book_1_2 x') (t_roster_book x')) ok w cs hH hr'
def to_roster_book_1 (x : roster_book) : (List api_Node) × Unit × Unit × Unit := (x.l, (), x.in_, ())
def ko_roster_book_1 (v1 : Value) : Kd roster_book := kiso (kpair (ksl k_api_Node) (kpair (kis v1) (kpair (kis (.func (.func 131) #[] #[])) knil))) to_roster_book_1
theorem lgo_roster_book_1_l {v1 : Value} (x : roster_book) : LG (ko_roster_book_1 v1) (ksl k_api_Node) 0 x x.l := LG.iso (LG.fst _ _ _)
theorem lso_roster_book_1_l {v1 : Value} (x : roster_book) (y : (List api_Node)) : LS (ko_roster_book_1 v1) (ksl k_api_Node) 0 x y { x with l := y } := LS.iso (LS.fst _ _ _ _)
theorem lgo_roster_book_1_counts {v1 : Value} (x : roster_book) : LG (ko_roster_book_1 v1) (kis v1) 1 x () := LG.iso (LG.snd _ (LG.fst _ _ _))
theorem lgo_roster_book_1_in_ {v1 : Value} (x : roster_book) : LG (ko_roster_book_1 v1) (kis (.func (.func 131) #[] #[])) 2 x x.in_ := LG.iso (LG.snd _ (LG.snd _ (LG.fst _ _ _)))
theorem lso_roster_book_1_in_ {v1 : Value} (x : roster_book) (y : Unit) : LS (ko_roster_book_1 v1) (kis (.func (.func 131) #[] #[])) 2 x y { x with in_ := y } := LS.iso (LS.snd _ (LS.snd _ (LS.fst _ _ _ _)))
theorem upo_roster_book_1 {H : Ok → World → Prop} {v1 : Value} {x x' : roster_book} (hx : to_roster_book_1 x = to_roster_book_1 x') (u1 : Up H (kis v1) (ksl kbool) () x'.counts) : Up H (ko_roster_book_1 v1) k_roster_book x x' := fun ok w cs hH hr => by
  have hr' : Kd.rel (kpair (ksl k_api_Node) (kpair (kis v1) (kpair (kis (.func (.func 131) #[] #[])) knil))) ok w (to_roster_book_1 x) cs := hr
  rw [hx] at hr'
  exact (Up.pair (Up.refl _ _) (Up.pair u1 (Up.pair (Up.refl _ _) (Up.refl _ _))) : Up H (kpair (ksl k_api_Node) (kpair (kis v1) (kpair (kis (.func (.func 131) #[] #[])) knil))) (kpair (ksl k_api_Node) (kpair (ksl kbool) (kpair (kis (.func (.func 131) #[] #[])) knil))) (to_roster_book_1 x') (t_roster_book x')) ok w cs hH hr'
theorem lsk_api_Key__1_to_1_at1 {u1 v1 : Value} (x : api_Key_) : LSK (ko_api_Key__1 v1) (kis u1) (ko_api_Key__1 u1) 1 x () x := LSK.iso (LSK.snd _ (LSK.fst (k := kis v1) (k' := kis u1) _ rfl _ _))
theorem lsk_frame_row_int__1_to_1_at1 {u1 v1 : Value} (x : frame_row_int_) : LSK (ko_frame_row_int__1 v1) (kis u1) (ko_frame_row_int__1 u1) 1 x () x := LSK.iso (LSK.snd _ (LSK.fst (k := kis v1) (k' := kis u1) _ rfl _ _))
theorem lsk_api_Box__1_to_1_at1 {u1 v1 : Value} (x : api_Box_) : LSK (ko_api_Box__1 v1) (kis u1) (ko_api_Box__1 u1) 1 x () x := LSK.iso (LSK.snd _ (LSK.fst (k := kis v1) (k' := kis u1) _ rfl _ _))
theorem lsk_roster_book_1_2_to_1_2_at2 {u2 v1 v2 : Value} (x : roster_book) : LSK (ko_roster_book_1_2 v1 v2) (kis u2) (ko_roster_book_1_2 v1 u2) 2 x () x := LSK.iso (LSK.snd _ (LSK.snd _ (LSK.fst (k := kis v2) (k' := kis u2) _ rfl _ _)))
theorem lsk_roster_book_1_to_1_at1 {u1 v1 : Value} (x : roster_book) : LSK (ko_roster_book_1 v1) (kis u1) (ko_roster_book_1 u1) 1 x () x := LSK.iso (LSK.snd _ (LSK.fst (k := kis v1) (k' := kis u1) _ rfl _ _))



/- cabal/graph.Find$1 -/
def graph_Find_1 (k : Nat) (p1 : api_Node) (p2 : (List Int)) : Option Bool :=
  some (decide (p1.Id = p2))

/- slices.IndexFunc[[]cabal/api.Node,cabal/api.Node] -/
def slices_IndexFunc_api_Node_api_Node_graph_Find_1.j1 (k : Nat) : Option Int :=
  some (-1 : Int)

def slices_IndexFunc_api_Node_api_Node_graph_Find_1.l1 (k : Nat) (p1 : (List api_Node)) (p2 : (List Int)) : Nat → Int → Option Int
  | 0, _ => none
  | n + 1, y1 =>
    if (decide (y1 < (p1.length : Int))) = true then ((at? p1 y1).bind fun x1 => (graph_Find_1 k x1 p2).bind fun x2 => if x2 = true then (some y1) else ((slices_IndexFunc_api_Node_api_Node_graph_Find_1.l1 k p1 p2 n) (iadd .i64 y1 (1 : Int)))) else ((slices_IndexFunc_api_Node_api_Node_graph_Find_1.j1 k))

def slices_IndexFunc_api_Node_api_Node_graph_Find_1 (k : Nat) (p1 : (List api_Node)) (p2 : (List Int)) : Option Int :=
  slices_IndexFunc_api_Node_api_Node_graph_Find_1.l1 k p1 p2 k (0 : Int)

/- cabal/graph.Find -/
def graph_Find (k : Nat) (p1 : (List api_Node)) (p2 : (List Int)) : Option Int :=
  (slices_IndexFunc_api_Node_api_Node_graph_Find_1 k p1 p2).bind fun x1 => some x1

/- cabal/graph.past -/
def graph_past.j2 (k : Nat) (y2 : (List Int)) : Option ((List Int) × Int) :=
  some (y2, (0 : Int))

def graph_past.j3 (k : Nat) (y3 : Int) (L_l1 : Int → (List Int) → Option ((List Int) × Int)) (y5 : (List Int)) : Option ((List Int) × Int) :=
  L_l1 (iadd .i64 y3 (1 : Int)) y5

def graph_past.l1 (k : Nat) (p1 : (List api_Node)) (y1 : (List (Int × Bool))) : Nat → Int → (List Int) → Option ((List Int) × Int)
  | 0, _, _ => none
  | n + 1, y3, y4 =>
    if (decide (y3 < (p1.length : Int))) = true then (if (mget y1 y3) = true then (if y4.length + ([y3] : (List Int)).length ≤ lim then ((graph_past.j3 k y3 (graph_past.l1 k p1 y1 n)) (y4 ++ ([y3] : (List Int)))) else none) else ((graph_past.j3 k y3 (graph_past.l1 k p1 y1 n)) y4)) else ((graph_past.j2 k) y4)

def graph_past.j1 (k : Nat) (p1 : (List api_Node)) (y1 : (List (Int × Bool))) : Option ((List Int) × Int) :=
  graph_past.l1 k p1 y1 k (0 : Int) ([] : (List Int))

def graph_past.j4 (k : Nat) (y6 : Int) (L_l2 : Int → (List (Int × Bool)) → Option ((List Int) × Int)) (y8 : (List (Int × Bool))) : Option ((List Int) × Int) :=
  L_l2 (iadd .i64 y6 (1 : Int)) y8

def graph_past.l3 (k : Nat) (x3 : api_Node) (y6 : Int) (L_l2 : Int → (List (Int × Bool)) → Option ((List Int) × Int)) : Nat → Int → (List (Int × Bool)) → Option ((List Int) × Int)
  | 0, _, _ => none
  | n + 1, y9, y10 =>
    if (decide (y9 < (x3.Past.length : Int))) = true then ((at? x3.Past y9).bind fun x4 => (graph_past.l3 k x3 y6 L_l2 n) (iadd .i64 y9 (1 : Int)) (mput y10 x4 true)) else ((graph_past.j4 k y6 L_l2) y10)

def graph_past.l2 (k : Nat) (p2 : (List (List Int))) (p1 : (List api_Node)) : Nat → Int → (List (Int × Bool)) → Option ((List Int) × Int)
  | 0, _, _ => none
  | n + 1, y6, y7 =>
    if (decide (y6 < (p2.length : Int))) = true then ((at? p2 y6).bind fun x1 => (graph_Find k p1 x1).bind fun x2 => if (decide (x2 < (0 : Int))) = true then (some (([] : (List Int)), (14 : Int))) else ((at? p1 x2).bind fun x3 => graph_past.l3 k x3 y6 (graph_past.l2 k p2 p1 n) k (0 : Int) (mput y7 x2 true))) else ((graph_past.j1 k p1) y7)

def graph_past (k : Nat) (p1 : (List api_Node)) (p2 : (List (List Int))) : Option ((List Int) × Int) :=
  graph_past.l2 k p2 p1 k (0 : Int) ([] : List (Int × Bool))

/- cabal/frame.member -/
def frame_member (k : Nat) (p1 : Int) : Option Bool :=
  (some ((if (decide (p1 ≥ (0 : Int))) then (decide (p1 < (8 : Int))) else false))).bind fun x1 => some x1

/- bytes.Compare -/
def bytes_Compare (k : Nat) (p1 : (List Int)) (p2 : (List Int)) : Option Int :=
  some (cmpB p1 p2)

/- cabal/frame.byKey -/
def frame_byKey (k : Nat) (p1 : (List Int)) (p2 : (List Int)) : Option Int :=
  (cut? p1 (0 : Int) (32 : Int)).bind fun x1 => (cut? p2 (0 : Int) (32 : Int)).bind fun x2 => (bytes_Compare k x1 x2).bind fun x3 => some x3

/- (cabal/frame.row[cabal/api.Key]).rising -/
def frame_row_api_Key_rising.j1 (k : Nat) : Option Bool :=
  some true

def frame_row_api_Key_rising.l1 (k : Nat) (p1 : api_Key_) : Nat → Int → Option Bool
  | 0, _ => none
  | n + 1, y1 =>
    if (decide (y1 < (p1.l.length : Int))) = true then ((at? p1.l (isub .i64 y1 (1 : Int))).bind fun x1 => (at? p1.l y1).bind fun x2 => (frame_byKey k x1 x2).bind fun x3 => if (decide (x3 ≥ (0 : Int))) = true then (some false) else ((frame_row_api_Key_rising.l1 k p1 n) (iadd .i64 y1 (1 : Int)))) else ((frame_row_api_Key_rising.j1 k))

def frame_row_api_Key_rising (k : Nat) (p1 : api_Key_) : Option Bool :=
  frame_row_api_Key_rising.l1 k p1 k (1 : Int)

/- cabal/frame.byNumber -/
def frame_byNumber (k : Nat) (p1 : Int) (p2 : Int) : Option Int :=
  if (decide (p1 < p2)) = true then (some (-1 : Int)) else (if (decide (p1 > p2)) = true then (some (1 : Int)) else (some (0 : Int)))

/- (cabal/frame.row[int]).rising -/
def frame_row_int_rising.j1 (k : Nat) : Option Bool :=
  some true

def frame_row_int_rising.l1 (k : Nat) (p1 : frame_row_int_) : Nat → Int → Option Bool
  | 0, _ => none
  | n + 1, y1 =>
    if (decide (y1 < (p1.l.length : Int))) = true then ((at? p1.l (isub .i64 y1 (1 : Int))).bind fun x1 => (at? p1.l y1).bind fun x2 => (frame_byNumber k x1 x2).bind fun x3 => if (decide (x3 ≥ (0 : Int))) = true then (some false) else ((frame_row_int_rising.l1 k p1 n) (iadd .i64 y1 (1 : Int)))) else ((frame_row_int_rising.j1 k))

def frame_row_int_rising (k : Nat) (p1 : frame_row_int_) : Option Bool :=
  frame_row_int_rising.l1 k p1 k (1 : Int)

/- cabal/frame.who$1 -/
def frame_who_1 (k : Nat) (p1 : Int) : Option Bool :=
  (frame_member k p1).bind fun x1 => some (!x1)

/- slices.IndexFunc[[]int,int] -/
def slices_IndexFunc_int_int_frame_who_1.j1 (k : Nat) : Option Int :=
  some (-1 : Int)

def slices_IndexFunc_int_int_frame_who_1.l1 (k : Nat) (p1 : (List Int)) : Nat → Int → Option Int
  | 0, _ => none
  | n + 1, y1 =>
    if (decide (y1 < (p1.length : Int))) = true then ((at? p1 y1).bind fun x1 => (frame_who_1 k x1).bind fun x2 => if x2 = true then (some y1) else ((slices_IndexFunc_int_int_frame_who_1.l1 k p1 n) (iadd .i64 y1 (1 : Int)))) else ((slices_IndexFunc_int_int_frame_who_1.j1 k))

def slices_IndexFunc_int_int_frame_who_1 (k : Nat) (p1 : (List Int)) : Option Int :=
  slices_IndexFunc_int_int_frame_who_1.l1 k p1 k (0 : Int)

/- slices.ContainsFunc[[]int,int] -/
def slices_ContainsFunc_int_int_frame_who_1 (k : Nat) (p1 : (List Int)) : Option Bool :=
  (slices_IndexFunc_int_int_frame_who_1 k p1).bind fun x1 => some (decide (x1 ≥ (0 : Int)))

/- slices.Index[[]int,int] -/
def slices_Index_int_int.j1 (k : Nat) : Option Int :=
  some (-1 : Int)

def slices_Index_int_int.l1 (k : Nat) (p1 : (List Int)) (p2 : Int) : Nat → Int → Option Int
  | 0, _ => none
  | n + 1, y1 =>
    if (decide (y1 < (p1.length : Int))) = true then ((at? p1 y1).bind fun x1 => if (p2 == x1) = true then (some y1) else ((slices_Index_int_int.l1 k p1 p2 n) (iadd .i64 y1 (1 : Int)))) else ((slices_Index_int_int.j1 k))

def slices_Index_int_int (k : Nat) (p1 : (List Int)) (p2 : Int) : Option Int :=
  slices_Index_int_int.l1 k p1 p2 k (0 : Int)

/- slices.Contains[[]int,int] -/
def slices_Contains_int_int (k : Nat) (p1 : (List Int)) (p2 : Int) : Option Bool :=
  (slices_Index_int_int k p1 p2).bind fun x1 => some (decide (x1 ≥ (0 : Int)))

/- cabal/frame.who -/
def frame_who.j1 (k : Nat) (p1 : api_Op) (y1 : Bool) : Option Bool :=
  if y1 = true then ((if (((p1.Who.length : Int) == (1 : Int)) == true) = true then at? p1.Who (0 : Int) else some (0 : Int)).bind fun x4 => (some ((if ((p1.Who.length : Int) == (1 : Int)) then (x4 != p1.Author) else false))).bind fun x5 => some x5) else (some ((p1.Who.length : Int) == (0 : Int)))

def frame_who (k : Nat) (p1 : api_Op) : Option Bool :=
  (frame_row_int_rising k (⟨p1.Who, ()⟩ : frame_row_int_)).bind fun x1 => (if ((!x1) == false) = true then slices_ContainsFunc_int_int_frame_who_1 k p1.Who else some false).bind fun x2 => if (if (!x1) then true else x2) = true then (some false) else (if (p1.Kind == (1 : Int)) = true then ((slices_Contains_int_int k p1.Who p1.Author).bind fun x3 => some x3) else (if (p1.Kind == (2 : Int)) = true then ((frame_who.j1 k p1) (p1.Kind == (2 : Int))) else ((frame_who.j1 k p1) (p1.Kind == (3 : Int)))))

/- cabal/frame.boxes$1 -/
def frame_boxes_1 (k : Nat) (p1 : api_Box) (p2 : api_Box) : Option Int :=
  (frame_byNumber k p1.To p2.To).bind fun x1 => some x1

/- (cabal/frame.row[cabal/api.Box]).rising -/
def frame_row_api_Box_rising.j1 (k : Nat) : Option Bool :=
  some true

def frame_row_api_Box_rising.l1 (k : Nat) (p1 : api_Box_) : Nat → Int → Option Bool
  | 0, _ => none
  | n + 1, y1 =>
    if (decide (y1 < (p1.l.length : Int))) = true then ((at? p1.l (isub .i64 y1 (1 : Int))).bind fun x1 => (at? p1.l y1).bind fun x2 => (frame_boxes_1 k x1 x2).bind fun x3 => if (decide (x3 ≥ (0 : Int))) = true then (some false) else ((frame_row_api_Box_rising.l1 k p1 n) (iadd .i64 y1 (1 : Int)))) else ((frame_row_api_Box_rising.j1 k))

def frame_row_api_Box_rising (k : Nat) (p1 : api_Box_) : Option Bool :=
  frame_row_api_Box_rising.l1 k p1 k (1 : Int)

/- cabal/frame.boxes$2 -/
def frame_boxes_2 (k : Nat) (p1 : api_Box) (p2 : api_Op) : Option Bool :=
  (frame_member k p1.To).bind fun x1 => (some ((if (if (!x1) then true else (p1.To == p2.Author)) then true else (decide ((p1.Body.length : Int) > (256 : Int)))))).bind fun x2 => some x2

/- slices.IndexFunc[[]cabal/api.Box,cabal/api.Box] -/
def slices_IndexFunc_api_Box_api_Box_frame_boxes_2.j1 (k : Nat) : Option Int :=
  some (-1 : Int)

def slices_IndexFunc_api_Box_api_Box_frame_boxes_2.l1 (k : Nat) (p1 : (List api_Box)) (p2 : api_Op) : Nat → Int → Option Int
  | 0, _ => none
  | n + 1, y1 =>
    if (decide (y1 < (p1.length : Int))) = true then ((at? p1 y1).bind fun x1 => (frame_boxes_2 k x1 p2).bind fun x2 => if x2 = true then (some y1) else ((slices_IndexFunc_api_Box_api_Box_frame_boxes_2.l1 k p1 p2 n) (iadd .i64 y1 (1 : Int)))) else ((slices_IndexFunc_api_Box_api_Box_frame_boxes_2.j1 k))

def slices_IndexFunc_api_Box_api_Box_frame_boxes_2 (k : Nat) (p1 : (List api_Box)) (p2 : api_Op) : Option Int :=
  slices_IndexFunc_api_Box_api_Box_frame_boxes_2.l1 k p1 p2 k (0 : Int)

/- slices.ContainsFunc[[]cabal/api.Box,cabal/api.Box] -/
def slices_ContainsFunc_api_Box_api_Box_frame_boxes_2 (k : Nat) (p1 : (List api_Box)) (p2 : api_Op) : Option Bool :=
  (slices_IndexFunc_api_Box_api_Box_frame_boxes_2 k p1 p2).bind fun x1 => some (decide (x1 ≥ (0 : Int)))

/- cabal/frame.boxes -/
def frame_boxes (k : Nat) (p1 : api_Op) : Option Bool :=
  (if ((decide ((p1.Boxes.length : Int) ≤ (8 : Int))) == true) = true then frame_row_api_Box_rising k (⟨p1.Boxes, ()⟩ : api_Box_) else some false).bind fun x1 => (if ((if (decide ((p1.Boxes.length : Int) ≤ (8 : Int))) then x1 else false) == true) = true then slices_ContainsFunc_api_Box_api_Box_frame_boxes_2 k p1.Boxes p1 else some false).bind fun x2 => (some ((if (if (decide ((p1.Boxes.length : Int) ≤ (8 : Int))) then x1 else false) then (!x2) else false))).bind fun x3 => some x3

/- cabal/frame.Right -/
def frame_Right (k : Nat) (p1 : api_Op) : Option Bool :=
  (some (([(0 : Int), (0 : Int), (0 : Int), (0 : Int), (0 : Int), (0 : Int), (0 : Int), (0 : Int), (0 : Int), (0 : Int), (0 : Int), (0 : Int), (0 : Int), (0 : Int), (0 : Int), (0 : Int), (0 : Int), (0 : Int), (0 : Int), (0 : Int), (0 : Int), (0 : Int), (0 : Int), (0 : Int), (0 : Int), (0 : Int), (0 : Int), (0 : Int), (0 : Int), (0 : Int), (0 : Int), (0 : Int)] : (List Int)))).bind fun x1 => (frame_member k p1.Author).bind fun x2 => (some ((if (if (!x2) then true else (p1.Seq == (0 : Int))) then true else (decide (p1.Kind < (1 : Int)))))).bind fun x3 => if (if x3 then true else (decide (p1.Kind > (7 : Int)))) = true then (some false) else ((if ((decide ((p1.Parents.length : Int) > (8 : Int))) == false) = true then frame_row_api_Key_rising k (⟨p1.Parents, ()⟩ : api_Key_) else some false).bind fun x4 => (some ((if (decide ((p1.Parents.length : Int) > (8 : Int))) then true else (!x4)))).bind fun x5 => (some ((!decide ((p1.Kind == (1 : Int)) = ((p1.Parents.length : Int) == (0 : Int)))))).bind fun x6 => (some ((if (if x5 then true else x6) then true else (if (p1.Kind == (1 : Int)) then (p1.Seq != (1 : Int)) else false)))).bind fun x7 => if x7 = true then (some false) else ((some ((!decide ((if (p1.Kind == (5 : Int)) then true else (p1.Kind == (6 : Int))) = (!decide (p1.Of = x1)))))).bind fun x8 => (some ((if x8 then true else (decide ((p1.Kind == (7 : Int)) = (!decide (p1.Check = x1))))))).bind fun x9 => (some ((!decide ((p1.Kind == (7 : Int)) = (decide ((p1.Text.length : Int) > (0 : Int))))))).bind fun x10 => (some ((if (if x9 then true else x10) then true else (decide ((p1.Text.length : Int) > (256 : Int)))))).bind fun x11 => if x11 = true then (some false) else ((frame_who k p1).bind fun x12 => (if (x12 == true) = true then frame_boxes k p1 else some false).bind fun x13 => some (if x12 then x13 else false))))

/- slices.Equal[[]int,int] -/
def slices_Equal_int_int.j1 (k : Nat) : Option Bool :=
  some true

def slices_Equal_int_int.l1 (k : Nat) (p1 : (List Int)) (p2 : (List Int)) : Nat → Int → Option Bool
  | 0, _ => none
  | n + 1, y1 =>
    if (decide (y1 < (p1.length : Int))) = true then ((at? p1 y1).bind fun x1 => (at? p2 y1).bind fun x2 => if (x1 != x2) = true then (some false) else ((slices_Equal_int_int.l1 k p1 p2 n) (iadd .i64 y1 (1 : Int)))) else ((slices_Equal_int_int.j1 k))

def slices_Equal_int_int (k : Nat) (p1 : (List Int)) (p2 : (List Int)) : Option Bool :=
  if ((p1.length : Int) != (p2.length : Int)) = true then (some false) else (slices_Equal_int_int.l1 k p1 p2 k (0 : Int))

/- cmp.isNaN[int] -/
def cmp_isNaN_int (k : Nat) (p1 : Int) : Option Bool :=
  some (p1 != p1)

/- cmp.Less[int] -/
def cmp_Less_int (k : Nat) (p1 : Int) (p2 : Int) : Option Bool :=
  (cmp_isNaN_int k p1).bind fun x1 => (if (x1 == true) = true then cmp_isNaN_int k p2 else some false).bind fun x2 => some (if (if x1 then (!x2) else false) then true else (decide (p1 < p2)))

/- slices.isNaN[int] -/
def slices_isNaN_int (k : Nat) (p1 : Int) : Option Bool :=
  some (p1 != p1)

/- slices.BinarySearch[[]int,int] -/
def slices_BinarySearch_int_int.j1 (k : Nat) (p1 : (List Int)) (p2 : Int) (y1 : Int) : Option (Int × Bool) :=
  (if ((decide (y1 < (p1.length : Int))) == true) = true then at? p1 y1 else some (0 : Int)).bind fun x1 => (if (((decide (y1 < (p1.length : Int))) == true) && ((x1 == p2) == false)) = true then at? p1 y1 else some (0 : Int)).bind fun x2 => (if (((decide (y1 < (p1.length : Int))) == true) && ((x1 == p2) == false)) = true then slices_isNaN_int k x2 else some false).bind fun x3 => (if ((((decide (y1 < (p1.length : Int))) == true) && ((x1 == p2) == false)) && (x3 == true)) = true then slices_isNaN_int k p2 else some false).bind fun x4 => (some ((if (decide (y1 < (p1.length : Int))) then (if (x1 == p2) then true else (if x3 then x4 else false)) else false))).bind fun x5 => some (y1, x5)

def slices_BinarySearch_int_int.l1 (k : Nat) (p1 : (List Int)) (p2 : Int) : Nat → Int → Int → Option (Int × Bool)
  | 0, _, _ => none
  | n + 1, y2, y3 =>
    if (decide (y2 < y3)) = true then ((some ((IntKind.wrap .i64 (ishr .u64 (IntKind.wrap .u64 (iadd .i64 y2 y3)) (1 : Int))))).bind fun x6 => (at? p1 x6).bind fun x7 => (cmp_Less_int k x7 p2).bind fun x8 => if x8 = true then ((slices_BinarySearch_int_int.l1 k p1 p2 n) (iadd .i64 x6 (1 : Int)) y3) else ((slices_BinarySearch_int_int.l1 k p1 p2 n) y2 x6)) else ((slices_BinarySearch_int_int.j1 k p1 p2) y2)

def slices_BinarySearch_int_int (k : Nat) (p1 : (List Int)) (p2 : Int) : Option (Int × Bool) :=
  slices_BinarySearch_int_int.l1 k p1 p2 k (0 : Int) (p1.length : Int)

/- cabal/graph.turn -/
def graph_turn.j1 (k : Nat) (p2 : api_Op) (p1 : (List api_Node)) (y1 : Int) : Option Bool :=
  (some ((if (p2.Seq == y1) then (decide ((p2.Kind == (1 : Int)) = ((p1.length : Int) == (0 : Int)))) else false))).bind fun x1 => some x1

def graph_turn.j2 (k : Nat) (y3 : Int) (L_l1 : Int → Int → Option Bool) (y4 : Int) : Option Bool :=
  L_l1 y4 (iadd .i64 y3 (1 : Int))

def graph_turn.l1 (k : Nat) (p1 : (List api_Node)) (p2 : api_Op) (p3 : (List Int)) : Nat → Int → Int → Option Bool
  | 0, _, _ => none
  | n + 1, y2, y3 =>
    if (decide (y3 < (p1.length : Int))) = true then ((at? p1 y3).bind fun x2 => if (x2.Op.Author != p2.Author) = true then ((graph_turn.j2 k y3 (graph_turn.l1 k p1 p2 p3 n)) y2) else ((slices_BinarySearch_int_int k p3 y3).bind fun x3 => if (!x3.2) = true then (some false) else ((graph_turn.j2 k y3 (graph_turn.l1 k p1 p2 p3 n)) (iadd .u32 y2 (1 : Int))))) else ((graph_turn.j1 k p2 p1) y2)

def graph_turn (k : Nat) (p1 : (List api_Node)) (p2 : api_Op) (p3 : (List Int)) : Option Bool :=
  graph_turn.l1 k p1 p2 p3 k (1 : Int) (0 : Int)

/- cabal/graph.fits -/
def graph_fits (k : Nat) (p1 : (List api_Node)) (p2 : api_Node) : Option Bool :=
  (graph_past k p1 p2.Op.Parents).bind fun x1 => (if ((x1.2 == (0 : Int)) == true) = true then frame_Right k p2.Op else some false).bind fun x2 => (if ((if (x1.2 == (0 : Int)) then x2 else false) == true) = true then graph_Find k p1 p2.Id else some (0 : Int)).bind fun x3 => (some ((if (if (x1.2 == (0 : Int)) then x2 else false) then (decide (x3 < (0 : Int))) else false))).bind fun x4 => (if (x4 == true) = true then slices_Equal_int_int k x1.1 p2.Past else some false).bind fun x5 => (if ((if x4 then x5 else false) == true) = true then graph_turn k p1 p2.Op x1.1 else some false).bind fun x6 => some (if (if x4 then x5 else false) then x6 else false)

/- cabal/graph.Right -/
def graph_Right.j1 (k : Nat) : Option Bool :=
  some true

def graph_Right.l1 (k : Nat) (p1 : (List api_Node)) : Nat → Int → Option Bool
  | 0, _ => none
  | n + 1, y1 =>
    if (decide (y1 < (p1.length : Int))) = true then ((at? p1 y1).bind fun x1 => (cut? p1 (0 : Int) y1).bind fun x2 => (graph_fits k x2 x1).bind fun x3 => if (!x3) = true then (some false) else ((graph_Right.l1 k p1 n) (iadd .i64 y1 (1 : Int)))) else ((graph_Right.j1 k))

def graph_Right (k : Nat) (p1 : (List api_Node)) : Option Bool :=
  if (decide ((p1.length : Int) > (96 : Int))) = true then (some false) else (graph_Right.l1 k p1 k (0 : Int))

/- slices.Clone[[]cabal/api.Key,cabal/api.Key] -/
def slices_Clone_api_Key_api_Key (k : Nat) (p1 : (List (List Int))) : Option (List (List Int)) :=
  if ([] : List (List Int)).length + p1.length ≤ lim then (some (([] : List (List Int)) ++ p1)) else none

/- slices.Clone[[]int,int] -/
def slices_Clone_int_int (k : Nat) (p1 : (List Int)) : Option (List Int) :=
  if ([] : List Int).length + p1.length ≤ lim then (some (([] : List Int) ++ p1)) else none

/- slices.Clone[[]cabal/api.Box,cabal/api.Box] -/
def slices_Clone_api_Box_api_Box (k : Nat) (p1 : (List api_Box)) : Option (List api_Box) :=
  if ([] : List api_Box).length + p1.length ≤ lim then (some (([] : List api_Box) ++ p1)) else none

/- cabal/graph.clone -/
def graph_clone (k : Nat) (p1 : api_Op) : Option api_Op :=
  (slices_Clone_api_Key_api_Key k p1.Parents).bind fun x1 => (slices_Clone_int_int k p1.Who).bind fun x2 => (slices_Clone_api_Box_api_Box k p1.Boxes).bind fun x3 => (some ({ { { p1 with Parents := x1 } with Who := x2 } with Boxes := x3 })).bind fun x4 => some x4

/- cabal/graph.Add -/
def graph_Add.j1 (k : Nat) (p3 : api_Op) (p2 : (List Int)) (x4 : ((List Int) × Int)) (y1 : (List api_Node)) : Option ((List api_Node) × Int) :=
  (graph_clone k p3).bind fun x6 => if y1.length + ([(⟨p2, x6, x4.1⟩ : api_Node)] : (List api_Node)).length ≤ lim then (some ((y1 ++ ([(⟨p2, x6, x4.1⟩ : api_Node)] : (List api_Node))), (0 : Int))) else none

def graph_Add.l1 (k : Nat) (p1 : (List api_Node)) (p3 : api_Op) (p2 : (List Int)) (x4 : ((List Int) × Int)) : Nat → Int → (List api_Node) → Option ((List api_Node) × Int)
  | 0, _, _ => none
  | n + 1, y2, y3 =>
    if (decide (y2 < (p1.length : Int))) = true then ((at? p1 y2).bind fun x7 => (graph_clone k x7.Op).bind fun x8 => (slices_Clone_int_int k x7.Past).bind fun x9 => if y3.length + ([(⟨x7.Id, x8, x9⟩ : api_Node)] : (List api_Node)).length ≤ lim then ((graph_Add.l1 k p1 p3 p2 x4 n) (iadd .i64 y2 (1 : Int)) (y3 ++ ([(⟨x7.Id, x8, x9⟩ : api_Node)] : (List api_Node)))) else none) else ((graph_Add.j1 k p3 p2 x4) y3)

def graph_Add (k : Nat) (p1 : (List api_Node)) (p2 : (List Int)) (p3 : api_Op) : Option ((List api_Node) × Int) :=
  (graph_Right k p1).bind fun x1 => (if ((!x1) == false) = true then frame_Right k p3 else some false).bind fun x2 => if (if (!x1) then true else (!x2)) = true then (some (([] : (List api_Node)), (1 : Int))) else ((graph_Find k p1 p2).bind fun x3 => if (decide (x3 ≥ (0 : Int))) = true then (some (([] : (List api_Node)), (13 : Int))) else (if ((p1.length : Int) == (96 : Int)) = true then (some (([] : (List api_Node)), (8 : Int))) else ((graph_past k p1 p3.Parents).bind fun x4 => if (x4.2 != (0 : Int)) = true then (some (([] : (List api_Node)), x4.2)) else ((graph_turn k p1 p3 x4.1).bind fun x5 => if (!x5) = true then (some (([] : (List api_Node)), (15 : Int))) else (graph_Add.l1 k p1 p3 p2 x4 k (0 : Int) ([] : (List api_Node)))))))

/- cabal/caballaw16.op -/
def caballaw16_op.j1 (k : Nat) (y1 : api_Op) : Option api_Op :=
  some y1

def caballaw16_op (k : Nat) (p1 : Int) (p2 : Int) (p3 : Int) (p4 : Int) (p5 : (List (List Int))) : Option api_Op :=
  (some (([(1 : Int), (0 : Int), (0 : Int), (0 : Int), (0 : Int), (0 : Int), (0 : Int), (0 : Int), (0 : Int), (0 : Int), (0 : Int), (0 : Int), (0 : Int), (0 : Int), (0 : Int), (0 : Int), (0 : Int), (0 : Int), (0 : Int), (0 : Int), (0 : Int), (0 : Int), (0 : Int), (0 : Int), (0 : Int), (0 : Int), (0 : Int), (0 : Int), (0 : Int), (0 : Int), (0 : Int), (0 : Int)] : (List Int)))).bind fun x1 => (some ((⟨p2, p3, p5, p1, [], (List.replicate 32 (0 : Int)), x1, [], []⟩ : api_Op))).bind fun x2 => if (decide (p4 ≥ (0 : Int))) = true then ((caballaw16_op.j1 k) ({ x2 with Who := ([p4] : (List Int)) })) else ((caballaw16_op.j1 k) x2)

/- cabal/roster.closed -/
def roster_closed.j1 (k : Nat) : Option Bool :=
  some true

def roster_closed.j2 (k : Nat) (y1 : Int) (L_l1 : Int → Option Bool) : Option Bool :=
  L_l1 (iadd .i64 y1 (1 : Int))

def roster_closed.l2 (k : Nat) (x5 : api_Node) (p2 : (List Int)) (y1 : Int) (L_l1 : Int → Option Bool) : Nat → Int → Option Bool
  | 0, _ => none
  | n + 1, y2 =>
    if (decide (y2 < (x5.Past.length : Int))) = true then ((at? x5.Past y2).bind fun x6 => (slices_Contains_int_int k p2 x6).bind fun x7 => if (!x7) = true then (some false) else ((roster_closed.l2 k x5 p2 y1 L_l1 n) (iadd .i64 y2 (1 : Int)))) else ((roster_closed.j2 k y1 L_l1))

def roster_closed.l1 (k : Nat) (p2 : (List Int)) (p1 : (List api_Node)) : Nat → Int → Option Bool
  | 0, _ => none
  | n + 1, y1 =>
    if (decide (y1 < (p2.length : Int))) = true then ((at? p2 y1).bind fun x1 => (some ((if (decide (x1 < (0 : Int))) then true else (decide (x1 ≥ (p1.length : Int)))))).bind fun x2 => (if ((x2 == false) && ((decide (y1 > (0 : Int))) == true)) = true then at? p2 (isub .i64 y1 (1 : Int)) else some (0 : Int)).bind fun x3 => (some ((if x2 then true else (if (decide (y1 > (0 : Int))) then (decide (x3 ≥ x1)) else false)))).bind fun x4 => if x4 = true then (some false) else ((at? p1 x1).bind fun x5 => roster_closed.l2 k x5 p2 y1 (roster_closed.l1 k p2 p1 n) k (0 : Int))) else ((roster_closed.j1 k))

def roster_closed (k : Nat) (p1 : (List api_Node)) (p2 : (List Int)) : Option Bool :=
  roster_closed.l1 k p2 p1 k (0 : Int)

/- cabal/roster.read$1 -/
def roster_read_1 (k : Nat) (p1 : (List Int)) (p2 : Int) : Option Bool :=
  (slices_Contains_int_int k p1 p2).bind fun x1 => some x1

/- (*cabal/roster.book).removes -/
def roster_book_removes (k : Nat) (p1 : roster_book) (p2 : Int) (p3 : Int) : Option Bool :=
  (at? p1.l p2).bind fun x1 => (at? p1.counts p2).bind fun x2 => (if ((if x2 then (x1.Op.Kind == (3 : Int)) else false) == true) = true then roster_read_1 k x1.Op.Who p3 else some false).bind fun x3 => (some ((if (if x2 then (x1.Op.Kind == (3 : Int)) else false) then x3 else false))).bind fun x4 => some x4

/- (*cabal/roster.book).ahead -/
def roster_book_ahead (k : Nat) (p1 : roster_book) (p2 : Int) (p3 : Int) : Option Bool :=
  (at? p1.l p3).bind fun x1 => (roster_read_1 k x1.Past p2).bind fun x2 => some x2

/- (*cabal/roster.book).lets -/
def roster_book_lets.j1 (k : Nat) : Option Bool :=
  some true

def roster_book_lets.l1 (k : Nat) (p2 : (List Int)) (x1 : api_Node) (p1 : roster_book) (p3 : Int) (p4 : Int) : Nat → Int → Option Bool
  | 0, _ => none
  | n + 1, y1 =>
    if (decide (y1 < (p2.length : Int))) = true then ((at? p2 y1).bind fun x5 => (if ((x1.Op.Kind == (2 : Int)) == true) = true then roster_book_removes k p1 x5 x1.Op.Author else some false).bind fun x6 => (some ((if (if (x1.Op.Kind == (2 : Int)) then x6 else false) then (x5 != p3) else false))).bind fun x7 => (if (x7 == true) = true then roster_book_ahead k p1 x5 p3 else some false).bind fun x8 => (if ((if x7 then (!x8) else false) == true) = true then roster_book_ahead k p1 p3 x5 else some false).bind fun x9 => if (if (if x7 then (!x8) else false) then (!x9) else false) = true then (some false) else ((roster_book_removes k p1 x5 p4).bind fun x10 => (if (x10 == true) = true then roster_book_ahead k p1 x5 p3 else some false).bind fun x11 => if (if x10 then (!x11) else false) = true then (some false) else ((roster_book_lets.l1 k p2 x1 p1 p3 p4 n) (iadd .i64 y1 (1 : Int))))) else ((roster_book_lets.j1 k))

def roster_book_lets (k : Nat) (p1 : roster_book) (p2 : (List Int)) (p3 : Int) (p4 : Int) : Option Bool :=
  (at? p1.l p3).bind fun x1 => (at? p1.counts p3).bind fun x2 => (some ((if (x1.Op.Kind != (1 : Int)) then (x1.Op.Kind != (2 : Int)) else false))).bind fun x3 => (if ((if (!x2) then true else x3) == false) = true then roster_read_1 k x1.Op.Who p4 else some false).bind fun x4 => if (if (if (!x2) then true else x3) then true else (!x4)) = true then (some false) else (roster_book_lets.l1 k p2 x1 p1 p3 p4 k (0 : Int))

/- (*cabal/roster.book).roster$1 -/
def roster_book_roster_1 (k : Nat) (p1 : Int) (p2 : roster_book) (p3 : (List Int)) (p4 : Int) : Option Bool :=
  (roster_book_lets k p2 p3 p1 p4).bind fun x1 => some x1

/- slices.IndexFunc[[]int,int] -/
def slices_IndexFunc_int_int_roster_book_roster_1.j1 (k : Nat) : Option Int :=
  some (-1 : Int)

def slices_IndexFunc_int_int_roster_book_roster_1.l1 (k : Nat) (p1 : (List Int)) (p2 : roster_book) (p3 : (List Int)) (p4 : Int) : Nat → Int → Option Int
  | 0, _ => none
  | n + 1, y1 =>
    if (decide (y1 < (p1.length : Int))) = true then ((at? p1 y1).bind fun x1 => (roster_book_roster_1 k x1 p2 p3 p4).bind fun x2 => if x2 = true then (some y1) else ((slices_IndexFunc_int_int_roster_book_roster_1.l1 k p1 p2 p3 p4 n) (iadd .i64 y1 (1 : Int)))) else ((slices_IndexFunc_int_int_roster_book_roster_1.j1 k))

def slices_IndexFunc_int_int_roster_book_roster_1 (k : Nat) (p1 : (List Int)) (p2 : roster_book) (p3 : (List Int)) (p4 : Int) : Option Int :=
  slices_IndexFunc_int_int_roster_book_roster_1.l1 k p1 p2 p3 p4 k (0 : Int)

/- slices.ContainsFunc[[]int,int] -/
def slices_ContainsFunc_int_int_roster_book_roster_1 (k : Nat) (p1 : (List Int)) (p2 : roster_book) (p3 : (List Int)) (p4 : Int) : Option Bool :=
  (slices_IndexFunc_int_int_roster_book_roster_1 k p1 p2 p3 p4).bind fun x1 => some (decide (x1 ≥ (0 : Int)))

/- (*cabal/roster.book).roster -/
def roster_book_roster.j1 (k : Nat) (y1 : (List Int)) : Option (List Int) :=
  some y1

def roster_book_roster.j2 (k : Nat) (y2 : Int) (L_l1 : Int → (List Int) → Option (List Int)) (y4 : (List Int)) : Option (List Int) :=
  L_l1 (iadd .i64 y2 (1 : Int)) y4

def roster_book_roster.l1 (k : Nat) (p2 : (List Int)) (p1 : roster_book) : Nat → Int → (List Int) → Option (List Int)
  | 0, _, _ => none
  | n + 1, y2, y3 =>
    if (decide (y2 < (8 : Int))) = true then ((slices_ContainsFunc_int_int_roster_book_roster_1 k p2 p1 p2 y2).bind fun x1 => if x1 = true then (if y3.length + ([y2] : (List Int)).length ≤ lim then ((roster_book_roster.j2 k y2 (roster_book_roster.l1 k p2 p1 n)) (y3 ++ ([y2] : (List Int)))) else none) else ((roster_book_roster.j2 k y2 (roster_book_roster.l1 k p2 p1 n)) y3)) else ((roster_book_roster.j1 k) y3)

def roster_book_roster (k : Nat) (p1 : roster_book) (p2 : (List Int)) : Option (List Int) :=
  roster_book_roster.l1 k p2 p1 k (0 : Int) ([] : (List Int))

/- cabal/roster.read -/
def roster_read.j1 (k : Nat) (p1 : (List api_Node)) (y1 : (List Bool)) : Option roster_book :=
  some (⟨p1, y1, ()⟩ : roster_book)

def roster_read.l1 (k : Nat) (p1 : (List api_Node)) : Nat → Int → (List Bool) → Option roster_book
  | 0, _, _ => none
  | n + 1, y2, y3 =>
    if (decide (y2 < (p1.length : Int))) = true then ((at? p1 y2).bind fun x1 => (if ((x1.Op.Kind == (1 : Int)) == false) = true then roster_book_roster k (⟨p1, y3, ()⟩ : roster_book) x1.Past else some []).bind fun x2 => (if ((x1.Op.Kind == (1 : Int)) == false) = true then roster_read_1 k x2 x1.Op.Author else some false).bind fun x3 => if y3.length + ([(if (x1.Op.Kind == (1 : Int)) then true else x3)] : (List Bool)).length ≤ lim then ((roster_read.l1 k p1 n) (iadd .i64 y2 (1 : Int)) (y3 ++ ([(if (x1.Op.Kind == (1 : Int)) then true else x3)] : (List Bool)))) else none) else ((roster_read.j1 k p1) y3)

def roster_read (k : Nat) (p1 : (List api_Node)) : Option roster_book :=
  roster_read.l1 k p1 k (0 : Int) ([] : (List Bool))

/- cabal/roster.Of -/
def roster_Of (k : Nat) (p1 : (List api_Node)) (p2 : (List Int)) : Option ((List Int) × Int) :=
  (graph_Right k p1).bind fun x1 => (if ((!x1) == false) = true then roster_closed k p1 p2 else some false).bind fun x2 => if (if (!x1) then true else (!x2)) = true then (some (([] : (List Int)), (1 : Int))) else ((roster_read k p1).bind fun x3 => (roster_book_roster k x3 p2).bind fun x4 => some (x4, (0 : Int)))

/- cabal/roster.All -/
def roster_All.j1 (k : Nat) (p1 : (List api_Node)) (y1 : (List Int)) : Option (List Int) :=
  (roster_read k p1).bind fun x2 => (roster_book_roster k x2 y1).bind fun x3 => some x3

def roster_All.l1 (k : Nat) (p1 : (List api_Node)) : Nat → Int → (List Int) → Option (List Int)
  | 0, _, _ => none
  | n + 1, y2, y3 =>
    if (decide (y2 < (p1.length : Int))) = true then (if y3.length + ([y2] : (List Int)).length ≤ lim then ((roster_All.l1 k p1 n) (iadd .i64 y2 (1 : Int)) (y3 ++ ([y2] : (List Int)))) else none) else ((roster_All.j1 k p1) y3)

def roster_All (k : Nat) (p1 : (List api_Node)) : Option (List Int) :=
  (graph_Right k p1).bind fun x1 => if (!x1) = true then (some ([] : (List Int))) else (roster_All.l1 k p1 k (0 : Int) ([] : (List Int)))

/- cabal/cabalref15.SameInts -/
def cabalref15_SameInts.j1 (k : Nat) : Option Bool :=
  some true

def cabalref15_SameInts.l1 (k : Nat) (p1 : (List Int)) (p2 : (List Int)) : Nat → Int → Option Bool
  | 0, _ => none
  | n + 1, y1 =>
    if (decide (y1 < (p1.length : Int))) = true then ((at? p1 y1).bind fun x1 => (at? p2 y1).bind fun x2 => if (x1 != x2) = true then (some false) else ((cabalref15_SameInts.l1 k p1 p2 n) (iadd .i64 y1 (1 : Int)))) else ((cabalref15_SameInts.j1 k))

def cabalref15_SameInts (k : Nat) (p1 : (List Int)) (p2 : (List Int)) : Option Bool :=
  if ((p1.length : Int) != (p2.length : Int)) = true then (some false) else (cabalref15_SameInts.l1 k p1 p2 k (0 : Int))

/- cabal/caballaw16.alive -/
def caballaw16_alive (k : Nat) : Option Bool :=
  (some (([(1 : Int), (0 : Int), (0 : Int), (0 : Int), (0 : Int), (0 : Int), (0 : Int), (0 : Int), (0 : Int), (0 : Int), (0 : Int), (0 : Int), (0 : Int), (0 : Int), (0 : Int), (0 : Int), (0 : Int), (0 : Int), (0 : Int), (0 : Int), (0 : Int), (0 : Int), (0 : Int), (0 : Int), (0 : Int), (0 : Int), (0 : Int), (0 : Int), (0 : Int), (0 : Int), (0 : Int), (0 : Int)] : (List Int)))).bind fun x1 => (some (([(1 : Int), (0 : Int), (0 : Int), (0 : Int), (0 : Int), (0 : Int), (0 : Int), (0 : Int), (0 : Int), (0 : Int), (0 : Int), (0 : Int), (0 : Int), (0 : Int), (0 : Int), (0 : Int), (0 : Int), (0 : Int), (0 : Int), (0 : Int), (0 : Int), (0 : Int), (0 : Int), (0 : Int), (0 : Int), (0 : Int), (0 : Int), (0 : Int), (0 : Int), (0 : Int), (0 : Int), (0 : Int)] : (List Int)))).bind fun x2 => (some ((⟨(0 : Int), (1 : Int), [], (1 : Int), ([(0 : Int), (1 : Int), (2 : Int)] : (List Int)), (List.replicate 32 (0 : Int)), x2, [], []⟩ : api_Op))).bind fun x3 => (graph_Add k [] x1 x3).bind fun x4 => (some (([(2 : Int), (0 : Int), (0 : Int), (0 : Int), (0 : Int), (0 : Int), (0 : Int), (0 : Int), (0 : Int), (0 : Int), (0 : Int), (0 : Int), (0 : Int), (0 : Int), (0 : Int), (0 : Int), (0 : Int), (0 : Int), (0 : Int), (0 : Int), (0 : Int), (0 : Int), (0 : Int), (0 : Int), (0 : Int), (0 : Int), (0 : Int), (0 : Int), (0 : Int), (0 : Int), (0 : Int), (0 : Int)] : (List Int)))).bind fun x5 => (some (([(1 : Int), (0 : Int), (0 : Int), (0 : Int), (0 : Int), (0 : Int), (0 : Int), (0 : Int), (0 : Int), (0 : Int), (0 : Int), (0 : Int), (0 : Int), (0 : Int), (0 : Int), (0 : Int), (0 : Int), (0 : Int), (0 : Int), (0 : Int), (0 : Int), (0 : Int), (0 : Int), (0 : Int), (0 : Int), (0 : Int), (0 : Int), (0 : Int), (0 : Int), (0 : Int), (0 : Int), (0 : Int)] : (List Int)))).bind fun x6 => (caballaw16_op k (3 : Int) (0 : Int) (2 : Int) (1 : Int) ([x6] : (List (List Int)))).bind fun x7 => (graph_Add k x4.1 x5 x7).bind fun x8 => (some (([(3 : Int), (0 : Int), (0 : Int), (0 : Int), (0 : Int), (0 : Int), (0 : Int), (0 : Int), (0 : Int), (0 : Int), (0 : Int), (0 : Int), (0 : Int), (0 : Int), (0 : Int), (0 : Int), (0 : Int), (0 : Int), (0 : Int), (0 : Int), (0 : Int), (0 : Int), (0 : Int), (0 : Int), (0 : Int), (0 : Int), (0 : Int), (0 : Int), (0 : Int), (0 : Int), (0 : Int), (0 : Int)] : (List Int)))).bind fun x9 => (some (([(1 : Int), (0 : Int), (0 : Int), (0 : Int), (0 : Int), (0 : Int), (0 : Int), (0 : Int), (0 : Int), (0 : Int), (0 : Int), (0 : Int), (0 : Int), (0 : Int), (0 : Int), (0 : Int), (0 : Int), (0 : Int), (0 : Int), (0 : Int), (0 : Int), (0 : Int), (0 : Int), (0 : Int), (0 : Int), (0 : Int), (0 : Int), (0 : Int), (0 : Int), (0 : Int), (0 : Int), (0 : Int)] : (List Int)))).bind fun x10 => (caballaw16_op k (2 : Int) (1 : Int) (1 : Int) (3 : Int) ([x10] : (List (List Int)))).bind fun x11 => (graph_Add k x8.1 x9 x11).bind fun x12 => (roster_Of k x12.1 ([(0 : Int), (2 : Int)] : (List Int))).bind fun x13 => (if ((if (x12.2 == (0 : Int)) then (x13.2 == (0 : Int)) else false) == true) = true then roster_All k x12.1 else some []).bind fun x14 => (if ((if (x12.2 == (0 : Int)) then (x13.2 == (0 : Int)) else false) == true) = true then cabalref15_SameInts k x14 ([(0 : Int), (2 : Int)] : (List Int)) else some false).bind fun x15 => (some ((if (if (x12.2 == (0 : Int)) then (x13.2 == (0 : Int)) else false) then x15 else false))).bind fun x16 => (if (x16 == true) = true then cabalref15_SameInts k x13.1 ([(0 : Int), (1 : Int), (2 : Int), (3 : Int)] : (List Int)) else some false).bind fun x17 => (if ((if x16 then x17 else false) == true) = true then roster_All k x4.1 else some []).bind fun x18 => (if ((if x16 then x17 else false) == true) = true then cabalref15_SameInts k x18 ([(0 : Int), (1 : Int), (2 : Int)] : (List Int)) else some false).bind fun x19 => some (if (if x16 then x17 else false) then x19 else false)

/- cabal/cabalref11.Great -/
def cabalref11_Great.j1 (k : Nat) : Option Bool :=
  some false

def cabalref11_Great.l1 (k : Nat) (p1 : api_Op) : Nat → Int → Option Bool
  | 0, _ => none
  | n + 1, y1 =>
    if (decide (y1 < (p1.Boxes.length : Int))) = true then ((at? p1.Boxes y1).bind fun x3 => if (decide ((x3.Body.length : Int) > (600 : Int))) = true then (some true) else ((cabalref11_Great.l1 k p1 n) (iadd .i64 y1 (1 : Int)))) else ((cabalref11_Great.j1 k))

def cabalref11_Great (k : Nat) (p1 : api_Op) : Option Bool :=
  (some ((if (decide ((p1.Parents.length : Int) > (30 : Int))) then true else (decide ((p1.Who.length : Int) > (30 : Int)))))).bind fun x1 => (some ((if (if x1 then true else (decide ((p1.Boxes.length : Int) > (30 : Int)))) then true else (decide ((p1.Text.length : Int) > (600 : Int)))))).bind fun x2 => if x2 = true then (some true) else (cabalref11_Great.l1 k p1 k (0 : Int))

/- cabal/cabalref15.Great -/
def cabalref15_Great.j1 (k : Nat) : Option Bool :=
  some false

def cabalref15_Great.l1 (k : Nat) (p1 : (List api_Node)) : Nat → Int → Option Bool
  | 0, _ => none
  | n + 1, y1 =>
    if (decide (y1 < (p1.length : Int))) = true then ((at? p1 y1).bind fun x1 => (cabalref11_Great k x1.Op).bind fun x2 => (if (x2 == false) = true then at? p1 y1 else some (⟨(List.replicate 32 (0 : Int)), (⟨(0 : Int), (0 : Int), [], (0 : Int), [], (List.replicate 32 (0 : Int)), (List.replicate 32 (0 : Int)), [], []⟩ : api_Op), []⟩ : api_Node)).bind fun x3 => if (if x2 then true else (decide ((x3.Past.length : Int) > (200 : Int)))) = true then (some true) else ((cabalref15_Great.l1 k p1 n) (iadd .i64 y1 (1 : Int)))) else ((cabalref15_Great.j1 k))

def cabalref15_Great (k : Nat) (p1 : (List api_Node)) : Option Bool :=
  if (decide ((p1.length : Int) > (110 : Int))) = true then (some true) else (cabalref15_Great.l1 k p1 k (0 : Int))

/- cabal/graph.Past -/
def graph_Past (k : Nat) (p1 : (List api_Node)) (p2 : (List (List Int))) : Option ((List Int) × Int) :=
  (graph_Right k p1).bind fun x1 => if (!x1) = true then (some (([] : (List Int)), (1 : Int))) else ((graph_past k p1 p2).bind fun x2 => some (x2.1, x2.2))

/- cabal/roster.named$1 -/
def roster_named_1 (k : Nat) (p1 : Int) (p2 : (List api_Node)) (p3 : Int) : Option Bool :=
  (at? p2 p1).bind fun x1 => (some ((if (x1.Op.Kind == (1 : Int)) then true else (x1.Op.Kind == (2 : Int))))).bind fun x2 => (if (x2 == true) = true then slices_Contains_int_int k x1.Op.Who p3 else some false).bind fun x3 => some (if x2 then x3 else false)

/- slices.IndexFunc[[]int,int] -/
def slices_IndexFunc_int_int_roster_named_1.j1 (k : Nat) : Option Int :=
  some (-1 : Int)

def slices_IndexFunc_int_int_roster_named_1.l1 (k : Nat) (p1 : (List Int)) (p2 : (List api_Node)) (p3 : Int) : Nat → Int → Option Int
  | 0, _ => none
  | n + 1, y1 =>
    if (decide (y1 < (p1.length : Int))) = true then ((at? p1 y1).bind fun x1 => (roster_named_1 k x1 p2 p3).bind fun x2 => if x2 = true then (some y1) else ((slices_IndexFunc_int_int_roster_named_1.l1 k p1 p2 p3 n) (iadd .i64 y1 (1 : Int)))) else ((slices_IndexFunc_int_int_roster_named_1.j1 k))

def slices_IndexFunc_int_int_roster_named_1 (k : Nat) (p1 : (List Int)) (p2 : (List api_Node)) (p3 : Int) : Option Int :=
  slices_IndexFunc_int_int_roster_named_1.l1 k p1 p2 p3 k (0 : Int)

/- slices.ContainsFunc[[]int,int] -/
def slices_ContainsFunc_int_int_roster_named_1 (k : Nat) (p1 : (List Int)) (p2 : (List api_Node)) (p3 : Int) : Option Bool :=
  (slices_IndexFunc_int_int_roster_named_1 k p1 p2 p3).bind fun x1 => some (decide (x1 ≥ (0 : Int)))

/- cabal/roster.named -/
def roster_named (k : Nat) (p1 : (List api_Node)) (p2 : (List Int)) (p3 : Int) : Option Bool :=
  (slices_ContainsFunc_int_int_roster_named_1 k p2 p1 p3).bind fun x1 => some x1

/- cabal/roster.behind -/
def roster_behind (k : Nat) (p1 : (List api_Node)) (p2 : api_Op) : Option ((List Int) × Int) :=
  (some (([(0 : Int), (0 : Int), (0 : Int), (0 : Int), (0 : Int), (0 : Int), (0 : Int), (0 : Int), (0 : Int), (0 : Int), (0 : Int), (0 : Int), (0 : Int), (0 : Int), (0 : Int), (0 : Int), (0 : Int), (0 : Int), (0 : Int), (0 : Int), (0 : Int), (0 : Int), (0 : Int), (0 : Int), (0 : Int), (0 : Int), (0 : Int), (0 : Int), (0 : Int), (0 : Int), (0 : Int), (0 : Int)] : (List Int)))).bind fun x1 => (graph_Add k [] x1 p2).bind fun x2 => (some ((if (x2.2 == (1 : Int)) then ((x2.1.length : Int) == (0 : Int)) else false))).bind fun x3 => if x3 = true then (some (([] : (List Int)), x2.2)) else ((graph_Past k p1 p2.Parents).bind fun x4 => if (x4.2 != (0 : Int)) = true then (some (([] : (List Int)), x4.2)) else (if (p2.Kind == (1 : Int)) = true then (some (p2.Who, (0 : Int))) else ((roster_read k p1).bind fun x5 => (roster_book_roster k x5 x4.1).bind fun x6 => (slices_Contains_int_int k x6 p2.Author).bind fun x7 => if (!x7) = true then (some (([] : (List Int)), (16 : Int))) else ((if ((p2.Kind == (2 : Int)) == true) = true then at? p2.Who (0 : Int) else some (0 : Int)).bind fun x8 => (if ((p2.Kind == (2 : Int)) == true) = true then roster_named k p1 x4.1 x8 else some false).bind fun x9 => if (if (p2.Kind == (2 : Int)) then x9 else false) = true then (some (([] : (List Int)), (13 : Int))) else ((if ((p2.Kind == (3 : Int)) == true) = true then at? p2.Who (0 : Int) else some (0 : Int)).bind fun x10 => (if ((p2.Kind == (3 : Int)) == true) = true then slices_Contains_int_int k x6 x10 else some false).bind fun x11 => if (if (p2.Kind == (3 : Int)) then (!x11) else false) = true then (some (([] : (List Int)), (22 : Int))) else (some (x6, (0 : Int))))))))

/- cabal/roster.Allowed -/
def roster_Allowed (k : Nat) (p1 : (List api_Node)) (p2 : api_Op) : Option Int :=
  (roster_behind k p1 p2).bind fun x1 => some x1.2

/- math/bits.Len64 -/
def math_bits_Len64.j3 (k : Nat) (y5 : Int) (y6 : Int) : Option Int :=
  (at? ([0, 1, 2, 2, 3, 3, 3, 3, 4, 4, 4, 4, 4, 4, 4, 4, 5, 5, 5, 5, 5, 5, 5, 5, 5, 5, 5, 5, 5, 5, 5, 5, 6, 6, 6, 6, 6, 6, 6, 6, 6, 6, 6, 6, 6, 6, 6, 6, 6, 6, 6, 6, 6, 6, 6, 6, 6, 6, 6, 6, 6, 6, 6, 6, 7, 7, 7, 7, 7, 7, 7, 7, 7, 7, 7, 7, 7, 7, 7, 7, 7, 7, 7, 7, 7, 7, 7, 7, 7, 7, 7, 7, 7, 7, 7, 7, 7, 7, 7, 7, 7, 7, 7, 7, 7, 7, 7, 7, 7, 7, 7, 7, 7, 7, 7, 7, 7, 7, 7, 7, 7, 7, 7, 7, 7, 7, 7, 7, 8, 8, 8, 8, 8, 8, 8, 8, 8, 8, 8, 8, 8, 8, 8, 8, 8, 8, 8, 8, 8, 8, 8, 8, 8, 8, 8, 8, 8, 8, 8, 8, 8, 8, 8, 8, 8, 8, 8, 8, 8, 8, 8, 8, 8, 8, 8, 8, 8, 8, 8, 8, 8, 8, 8, 8, 8, 8, 8, 8, 8, 8, 8, 8, 8, 8, 8, 8, 8, 8, 8, 8, 8, 8, 8, 8, 8, 8, 8, 8, 8, 8, 8, 8, 8, 8, 8, 8, 8, 8, 8, 8, 8, 8, 8, 8, 8, 8, 8, 8, 8, 8, 8, 8, 8, 8, 8, 8, 8, 8, 8, 8, 8, 8, 8, 8, 8, 8, 8, 8, 8, 8, 8, 8, 8, 8, 8, 8] : List Int) (IntKind.wrap .u8 y5)).bind fun x1 => some (iadd .i64 y6 (IntKind.wrap .i64 x1))

def math_bits_Len64.j2 (k : Nat) (y3 : Int) (y4 : Int) : Option Int :=
  if (decide (y3 ≥ (256 : Int))) = true then ((math_bits_Len64.j3 k) (ishr .u64 y3 (8 : Int)) (iadd .i64 y4 (8 : Int))) else ((math_bits_Len64.j3 k) y3 y4)

def math_bits_Len64.j1 (k : Nat) (y1 : Int) (y2 : Int) : Option Int :=
  if (decide (y1 ≥ (65536 : Int))) = true then ((math_bits_Len64.j2 k) (ishr .u64 y1 (16 : Int)) (iadd .i64 y2 (16 : Int))) else ((math_bits_Len64.j2 k) y1 y2)

def math_bits_Len64 (k : Nat) (p1 : Int) : Option Int :=
  if (decide (p1 ≥ (4294967296 : Int))) = true then ((math_bits_Len64.j1 k) (ishr .u64 p1 (32 : Int)) (32 : Int)) else ((math_bits_Len64.j1 k) p1 (0 : Int))

/- math/bits.Len -/
def math_bits_Len (k : Nat) (p1 : Int) : Option Int :=
  (math_bits_Len64 k p1).bind fun x1 => some x1

/- slices.insertionSortOrdered[int] -/
def slices_insertionSortOrdered_int.j1 (k : Nat) (y1 : Int) (L_l1 : Int → (List Int) → Option (List Int)) (y3 : (List Int)) : Option (List Int) :=
  L_l1 (iadd .i64 y1 (1 : Int)) y3

def slices_insertionSortOrdered_int.l2 (k : Nat) (p2 : Int) (y1 : Int) (L_l1 : Int → (List Int) → Option (List Int)) : Nat → Int → (List Int) → Option (List Int)
  | 0, _, _ => none
  | n + 1, y4, y5 =>
    if ((decide (y4 > p2)) == true) = true → (0 ≤ y4 ∧ y4 < y5.length) then ((if ((decide (y4 > p2)) == true) = true then at? y5 y4 else some (0 : Int)).bind fun x1 => if ((decide (y4 > p2)) == true) = true → (0 ≤ (isub .i64 y4 (1 : Int)) ∧ (isub .i64 y4 (1 : Int)) < y5.length) then ((if ((decide (y4 > p2)) == true) = true then at? y5 (isub .i64 y4 (1 : Int)) else some (0 : Int)).bind fun x2 => (if ((decide (y4 > p2)) == true) = true then cmp_Less_int k x1 x2 else some false).bind fun x3 => if (if (decide (y4 > p2)) then x3 else false) = true then (if (0 ≤ (isub .i64 y4 (1 : Int)) ∧ (isub .i64 y4 (1 : Int)) < y5.length) then ((at? y5 (isub .i64 y4 (1 : Int))).bind fun x4 => if (0 ≤ y4 ∧ y4 < y5.length) then ((at? y5 y4).bind fun x5 => if (0 ≤ y4 ∧ y4 < y5.length) then ((set? y5 y4 x4).bind fun x6 => if (0 ≤ (isub .i64 y4 (1 : Int)) ∧ (isub .i64 y4 (1 : Int)) < x6.length) then ((set? x6 (isub .i64 y4 (1 : Int)) x5).bind fun x7 => (slices_insertionSortOrdered_int.l2 k p2 y1 L_l1 n) (isub .i64 y4 (1 : Int)) x7) else none) else none) else none) else none) else ((slices_insertionSortOrdered_int.j1 k y1 L_l1) y5)) else none) else none

def slices_insertionSortOrdered_int.l1 (k : Nat) (p3 : Int) (p2 : Int) : Nat → Int → (List Int) → Option (List Int)
  | 0, _, _ => none
  | n + 1, y1, y2 =>
    if (decide (y1 < p3)) = true then (slices_insertionSortOrdered_int.l2 k p2 y1 (slices_insertionSortOrdered_int.l1 k p3 p2 n) k y1 y2) else (some y2)

def slices_insertionSortOrdered_int (k : Nat) (p1 : (List Int)) (p2 : Int) (p3 : Int) : Option (List Int) :=
  slices_insertionSortOrdered_int.l1 k p3 p2 k (iadd .i64 p2 (1 : Int)) p1

/- slices.pdqsortOrdered[int] -/
def slices_pdqsortOrdered_int.l1 (k : Nat) (p3 : Int) (p2 : Int) (p1 : (List Int)) (p4 : Int) : Nat → Option (List Int)
  | 0 => none
  | n + 1 =>
    if (decide ((isub .i64 p3 p2) ≤ (12 : Int))) = true then ((slices_insertionSortOrdered_int k p1 p2 p3).bind fun x1 => some x1) else (if (p4 == (0 : Int)) = true then (none) else (if (!true) = true then (none) else (none)))

def slices_pdqsortOrdered_int (k : Nat) (p1 : (List Int)) (p2 : Int) (p3 : Int) (p4 : Int) : Option (List Int) :=
  slices_pdqsortOrdered_int.l1 k p3 p2 p1 p4 k

/- slices.Sort[[]int,int] -/
def slices_Sort_int_int (k : Nat) (p1 : (List Int)) : Option (List Int) :=
  (math_bits_Len k (IntKind.wrap .u64 (p1.length : Int))).bind fun x1 => (slices_pdqsortOrdered_int k p1 (0 : Int) (p1.length : Int) x1).bind fun x2 => some x2

/- slices.Compact[[]int,int] -/
def slices_Compact_int_int.j1 (k : Nat) (p1 : (List Int)) : Option (List Int) :=
  some p1

def slices_Compact_int_int.j2 (k : Nat) (y1 : Int) (L_l1 : Int → Option (List Int)) : Option (List Int) :=
  L_l1 (iadd .i64 y1 (1 : Int))

def slices_Compact_int_int.j3 (k : Nat) (y2 : Int) (y3 : (List Int)) : Option (List Int) :=
  if (0 ≤ y2 ∧ y2 ≤ (y3.length : Int)) then (if y2.toNat + (y3.length - y2.toNat) ≤ y3.length then (if (0 ≤ y2 ∧ y2 ≤ ((y3.take y2.toNat ++ List.replicate (y3.length - y2.toNat) (0 : Int) ++ y3.drop (y2.toNat + (y3.length - y2.toNat))).length : Int)) then (some ((y3.take y2.toNat ++ List.replicate (y3.length - y2.toNat) (0 : Int) ++ y3.drop (y2.toNat + (y3.length - y2.toNat))).take y2.toNat)) else none) else none) else none

def slices_Compact_int_int.j4 (k : Nat) (y5 : Int) (L_l2 : Int → Int → (List Int) → Option (List Int)) (y7 : Int) (y8 : (List Int)) : Option (List Int) :=
  L_l2 y7 (iadd .i64 y5 (1 : Int)) y8

def slices_Compact_int_int.l2 (k : Nat) (p1 : (List Int)) (y1 : Int) : Nat → Int → Int → (List Int) → Option (List Int)
  | 0, _, _, _ => none
  | n + 1, y4, y5, y6 =>
    if (decide (y5 < (((p1.length - y1.toNat) : Nat) : Int))) = true then (if (0 ≤ y5 ∧ y5 < (((p1.length - y1.toNat) : Nat) : Int)) then (if 0 ≤ y1 then ((at? y6 (y1 + y5)).bind fun x3 => if (0 ≤ (isub .i64 y5 (1 : Int)) ∧ (isub .i64 y5 (1 : Int)) < (((p1.length - y1.toNat) : Nat) : Int)) then (if 0 ≤ y1 then ((at? y6 (y1 + (isub .i64 y5 (1 : Int)))).bind fun x4 => if (x3 != x4) = true then (if (0 ≤ y5 ∧ y5 < (((p1.length - y1.toNat) : Nat) : Int)) then (if 0 ≤ y1 then ((at? y6 (y1 + y5)).bind fun x5 => if (0 ≤ y4 ∧ y4 < y6.length) then ((set? y6 y4 x5).bind fun x6 => (slices_Compact_int_int.j4 k y5 (slices_Compact_int_int.l2 k p1 y1 n)) (iadd .i64 y4 (1 : Int)) x6) else none) else none) else none) else ((slices_Compact_int_int.j4 k y5 (slices_Compact_int_int.l2 k p1 y1 n)) y4 y6)) else none) else none) else none) else none) else ((slices_Compact_int_int.j3 k) y4 y6)

def slices_Compact_int_int.l1 (k : Nat) (p1 : (List Int)) : Nat → Int → Option (List Int)
  | 0, _ => none
  | n + 1, y1 =>
    if (decide (y1 < (p1.length : Int))) = true then (if (0 ≤ y1 ∧ y1 < p1.length) then ((at? p1 y1).bind fun x1 => if (0 ≤ (isub .i64 y1 (1 : Int)) ∧ (isub .i64 y1 (1 : Int)) < p1.length) then ((at? p1 (isub .i64 y1 (1 : Int))).bind fun x2 => if (x1 == x2) = true then (if (0 ≤ y1 ∧ y1 ≤ (p1.length : Int)) then (slices_Compact_int_int.l2 k p1 y1 k y1 (1 : Int) p1) else none) else ((slices_Compact_int_int.j2 k y1 (slices_Compact_int_int.l1 k p1 n)))) else none) else none) else ((slices_Compact_int_int.j1 k p1))

def slices_Compact_int_int (k : Nat) (p1 : (List Int)) : Option (List Int) :=
  if (decide ((p1.length : Int) < (2 : Int))) = true then (some p1) else (slices_Compact_int_int.l1 k p1 k (1 : Int))

/- cabal/roster.To$1 -/
def roster_To_1 (k : Nat) (p1 : Int) (p2 : api_Op) : Option Bool :=
  (if (((p1 == p2.Author) == false) && ((p2.Kind == (3 : Int)) == true)) = true then at? p2.Who (0 : Int) else some (0 : Int)).bind fun x1 => (some ((if (p1 == p2.Author) then true else (if (p2.Kind == (3 : Int)) then (p1 == x1) else false)))).bind fun x2 => some x2

/- slices.IndexFunc[[]int,int] -/
def slices_IndexFunc_int_int_roster_To_1.j1 (k : Nat) : Option Int :=
  some (-1 : Int)

def slices_IndexFunc_int_int_roster_To_1.l1 (k : Nat) (p1 : (List Int)) (p2 : api_Op) : Nat → Int → Option Int
  | 0, _ => none
  | n + 1, y1 =>
    if (decide (y1 < (p1.length : Int))) = true then ((at? p1 y1).bind fun x1 => (roster_To_1 k x1 p2).bind fun x2 => if x2 = true then (some y1) else ((slices_IndexFunc_int_int_roster_To_1.l1 k p1 p2 n) (iadd .i64 y1 (1 : Int)))) else ((slices_IndexFunc_int_int_roster_To_1.j1 k))

def slices_IndexFunc_int_int_roster_To_1 (k : Nat) (p1 : (List Int)) (p2 : api_Op) : Option Int :=
  slices_IndexFunc_int_int_roster_To_1.l1 k p1 p2 k (0 : Int)

/- slices.DeleteFunc[[]int,int] -/
def slices_DeleteFunc_int_int_roster_To_1.j1 (k : Nat) (y1 : Int) (y2 : (List Int)) : Option (List Int) :=
  if (0 ≤ y1 ∧ y1 ≤ (y2.length : Int)) then (if y1.toNat + (y2.length - y1.toNat) ≤ y2.length then (if (0 ≤ y1 ∧ y1 ≤ ((y2.take y1.toNat ++ List.replicate (y2.length - y1.toNat) (0 : Int) ++ y2.drop (y1.toNat + (y2.length - y1.toNat))).length : Int)) then (some ((y2.take y1.toNat ++ List.replicate (y2.length - y1.toNat) (0 : Int) ++ y2.drop (y1.toNat + (y2.length - y1.toNat))).take y1.toNat)) else none) else none) else none

def slices_DeleteFunc_int_int_roster_To_1.j2 (k : Nat) (y4 : Int) (L_l1 : Int → Int → (List Int) → Option (List Int)) (y6 : Int) (y7 : (List Int)) : Option (List Int) :=
  L_l1 y6 (iadd .i64 y4 (1 : Int)) y7

def slices_DeleteFunc_int_int_roster_To_1.l1 (k : Nat) (p2 : api_Op) : Nat → Int → Int → (List Int) → Option (List Int)
  | 0, _, _, _ => none
  | n + 1, y3, y4, y5 =>
    if (decide (y4 < (y5.length : Int))) = true then (if (0 ≤ y4 ∧ y4 < y5.length) then ((at? y5 y4).bind fun x2 => (roster_To_1 k x2 p2).bind fun x3 => if (!x3) = true then (if (0 ≤ y3 ∧ y3 < y5.length) then ((set? y5 y3 x2).bind fun x4 => (slices_DeleteFunc_int_int_roster_To_1.j2 k y4 (slices_DeleteFunc_int_int_roster_To_1.l1 k p2 n)) (iadd .i64 y3 (1 : Int)) x4) else none) else ((slices_DeleteFunc_int_int_roster_To_1.j2 k y4 (slices_DeleteFunc_int_int_roster_To_1.l1 k p2 n)) y3 y5)) else none) else ((slices_DeleteFunc_int_int_roster_To_1.j1 k) y3 y5)

def slices_DeleteFunc_int_int_roster_To_1 (k : Nat) (p1 : (List Int)) (p2 : api_Op) : Option (List Int) :=
  (slices_IndexFunc_int_int_roster_To_1 k p1 p2).bind fun x1 => if (x1 == (-1 : Int)) = true then (some p1) else (slices_DeleteFunc_int_int_roster_To_1.l1 k p2 k x1 (iadd .i64 x1 (1 : Int)) p1)

/- cabal/roster.To -/
def roster_To.j1 (k : Nat) (p2 : api_Op) (y1 : (List Int)) : Option ((List Int) × Int) :=
  (slices_Sort_int_int k y1).bind fun x3 => (slices_Compact_int_int k x3).bind fun x4 => (slices_DeleteFunc_int_int_roster_To_1 k x4 p2).bind fun x5 => some (x5, (0 : Int))

def roster_To (k : Nat) (p1 : (List api_Node)) (p2 : api_Op) : Option ((List Int) × Int) :=
  (roster_behind k p1 p2).bind fun x1 => if (x1.2 != (0 : Int)) = true then (some (([] : (List Int)), x1.2)) else ((slices_Clone_int_int k x1.1).bind fun x2 => if (p2.Kind == (2 : Int)) = true then ((at? p2.Who (0 : Int)).bind fun x6 => if x2.length + ([x6] : (List Int)).length ≤ lim then ((roster_To.j1 k p2) (x2 ++ ([x6] : (List Int)))) else none) else ((roster_To.j1 k p2) x2))

/- cabal/cabalref15.Find -/
def cabalref15_Find.j1 (k : Nat) : Option Int :=
  some (-1 : Int)

def cabalref15_Find.l1 (k : Nat) (p1 : (List api_Node)) (p2 : (List Int)) : Nat → Int → Option Int
  | 0, _ => none
  | n + 1, y1 =>
    if (decide (y1 < (p1.length : Int))) = true then ((at? p1 y1).bind fun x1 => if (decide (x1.Id = p2)) = true then (some y1) else ((cabalref15_Find.l1 k p1 p2 n) (iadd .i64 y1 (1 : Int)))) else ((cabalref15_Find.j1 k))

def cabalref15_Find (k : Nat) (p1 : (List api_Node)) (p2 : (List Int)) : Option Int :=
  cabalref15_Find.l1 k p1 p2 k (0 : Int)

/- cabal/cabalref15.In -/
def cabalref15_In.j1 (k : Nat) : Option Bool :=
  some false

def cabalref15_In.l1 (k : Nat) (p1 : (List Int)) (p2 : Int) : Nat → Int → Option Bool
  | 0, _ => none
  | n + 1, y1 =>
    if (decide (y1 < (p1.length : Int))) = true then ((at? p1 y1).bind fun x1 => if (x1 == p2) = true then (some true) else ((cabalref15_In.l1 k p1 p2 n) (iadd .i64 y1 (1 : Int)))) else ((cabalref15_In.j1 k))

def cabalref15_In (k : Nat) (p1 : (List Int)) (p2 : Int) : Option Bool :=
  cabalref15_In.l1 k p1 p2 k (0 : Int)

/- cabal/cabalref15.Past -/
def cabalref15_Past.j2 (k : Nat) (y1 : (List Int)) : Option ((List Int) × Bool) :=
  some (y1, true)

def cabalref15_Past.j3 (k : Nat) (y2 : Int) (L_l1 : Int → (List Int) → Option ((List Int) × Bool)) (y4 : (List Int)) : Option ((List Int) × Bool) :=
  L_l1 (iadd .i64 y2 (1 : Int)) y4

def cabalref15_Past.j4 (k : Nat) (y3 : (List Int)) (y2 : Int) (L_l1 : Int → (List Int) → Option ((List Int) × Bool)) (y5 : Bool) : Option ((List Int) × Bool) :=
  if y5 = true then (if y3.length + ([y2] : (List Int)).length ≤ lim then ((cabalref15_Past.j3 k y2 L_l1) (y3 ++ ([y2] : (List Int)))) else none) else ((cabalref15_Past.j3 k y2 L_l1) y3)

def cabalref15_Past.l2 (k : Nat) (p2 : (List (List Int))) (p1 : (List api_Node)) (y2 : Int) (y3 : (List Int)) (L_l1 : Int → (List Int) → Option ((List Int) × Bool)) : Nat → Bool → Int → Option ((List Int) × Bool)
  | 0, _, _ => none
  | n + 1, y6, y7 =>
    if (decide (y7 < (p2.length : Int))) = true then ((at? p2 y7).bind fun x1 => (cabalref15_Find k p1 x1).bind fun x2 => (if ((if y6 then true else (x2 == y2)) == false) = true then at? p1 x2 else some (⟨(List.replicate 32 (0 : Int)), (⟨(0 : Int), (0 : Int), [], (0 : Int), [], (List.replicate 32 (0 : Int)), (List.replicate 32 (0 : Int)), [], []⟩ : api_Op), []⟩ : api_Node)).bind fun x3 => (if ((if y6 then true else (x2 == y2)) == false) = true then cabalref15_In k x3.Past y2 else some false).bind fun x4 => (cabalref15_Past.l2 k p2 p1 y2 y3 L_l1 n) (if (if y6 then true else (x2 == y2)) then true else x4) (iadd .i64 y7 (1 : Int))) else ((cabalref15_Past.j4 k y3 y2 L_l1) y6)

def cabalref15_Past.l1 (k : Nat) (p1 : (List api_Node)) (p2 : (List (List Int))) : Nat → Int → (List Int) → Option ((List Int) × Bool)
  | 0, _, _ => none
  | n + 1, y2, y3 =>
    if (decide (y2 < (p1.length : Int))) = true then (cabalref15_Past.l2 k p2 p1 y2 y3 (cabalref15_Past.l1 k p1 p2 n) k false (0 : Int)) else ((cabalref15_Past.j2 k) y3)

def cabalref15_Past.j1 (k : Nat) (p1 : (List api_Node)) (p2 : (List (List Int))) : Option ((List Int) × Bool) :=
  cabalref15_Past.l1 k p1 p2 k (0 : Int) ([] : (List Int))

def cabalref15_Past.l3 (k : Nat) (p2 : (List (List Int))) (p1 : (List api_Node)) : Nat → Int → Option ((List Int) × Bool)
  | 0, _ => none
  | n + 1, y8 =>
    if (decide (y8 < (p2.length : Int))) = true then ((at? p2 y8).bind fun x5 => (cabalref15_Find k p1 x5).bind fun x6 => if (decide (x6 < (0 : Int))) = true then (some (([] : (List Int)), false)) else ((cabalref15_Past.l3 k p2 p1 n) (iadd .i64 y8 (1 : Int)))) else ((cabalref15_Past.j1 k p1 p2))

def cabalref15_Past (k : Nat) (p1 : (List api_Node)) (p2 : (List (List Int))) : Option ((List Int) × Bool) :=
  cabalref15_Past.l3 k p2 p1 k (0 : Int)

/- cabal/cabalref11.Member -/
def cabalref11_Member (k : Nat) (p1 : Int) : Option Bool :=
  (some ((if (decide (p1 ≥ (0 : Int))) then (decide (p1 ≤ (7 : Int))) else false))).bind fun x1 => some x1

/- cabal/cabalref11.Less -/
def cabalref11_Less.j1 (k : Nat) : Option Bool :=
  some false

def cabalref11_Less.l1 (k : Nat) (p1 : (List Int)) (p2 : (List Int)) : Nat → Int → Option Bool
  | 0, _ => none
  | n + 1, y1 =>
    if (decide (y1 < (32 : Int))) = true then (if (0 ≤ y1 ∧ y1 < 32) then ((at? p1 y1).bind fun x1 => if (0 ≤ y1 ∧ y1 < 32) then ((at? p2 y1).bind fun x2 => if (x1 != x2) = true then (if (0 ≤ y1 ∧ y1 < 32) then ((at? p1 y1).bind fun x3 => if (0 ≤ y1 ∧ y1 < 32) then ((at? p2 y1).bind fun x4 => some (decide (x3 < x4))) else none) else none) else ((cabalref11_Less.l1 k p1 p2 n) (iadd .i64 y1 (1 : Int)))) else none) else none) else ((cabalref11_Less.j1 k))

def cabalref11_Less (k : Nat) (p1 : (List Int)) (p2 : (List Int)) : Option Bool :=
  cabalref11_Less.l1 k p1 p2 k (0 : Int)

/- cabal/cabalref11.kind -/
def cabalref11_kind (k : Nat) (p1 : api_Op) (p2 : Bool) : Option Bool :=
  (some (([(0 : Int), (0 : Int), (0 : Int), (0 : Int), (0 : Int), (0 : Int), (0 : Int), (0 : Int), (0 : Int), (0 : Int), (0 : Int), (0 : Int), (0 : Int), (0 : Int), (0 : Int), (0 : Int), (0 : Int), (0 : Int), (0 : Int), (0 : Int), (0 : Int), (0 : Int), (0 : Int), (0 : Int), (0 : Int), (0 : Int), (0 : Int), (0 : Int), (0 : Int), (0 : Int), (0 : Int), (0 : Int)] : (List Int)))).bind fun x1 => (some ((if (!p2) then true else (decide ((p1.Parents.length : Int) > (0 : Int)))))).bind fun x2 => (some ((if (p1.Kind == (1 : Int)) then (if x2 then true else (p1.Seq != (1 : Int))) else false))).bind fun x3 => (some ((if (p1.Kind != (1 : Int)) then ((p1.Parents.length : Int) == (0 : Int)) else false))).bind fun x4 => if (if x3 then true else x4) = true then (some false) else ((some ((if (if (p1.Kind == (2 : Int)) then true else (p1.Kind == (3 : Int))) then (if p2 then true else ((p1.Who.length : Int) != (1 : Int))) else false))).bind fun x5 => (some ((if (decide (p1.Kind > (3 : Int))) then (decide ((p1.Who.length : Int) > (0 : Int))) else false))).bind fun x6 => if (if x5 then true else x6) = true then (some false) else ((some ((decide ((if (p1.Kind == (5 : Int)) then true else (p1.Kind == (6 : Int))) = (decide (p1.Of = x1)))))).bind fun x7 => if x7 = true then (some false) else (if (p1.Kind == (7 : Int)) = true then ((some ((if (decide (p1.Check = x1)) then (decide ((p1.Text.length : Int) > (0 : Int))) else false))).bind fun x8 => some x8) else ((some ((if (!decide (p1.Check = x1)) then ((p1.Text.length : Int) == (0 : Int)) else false))).bind fun x9 => some x9))))

/- cabal/cabalref11.Right -/
def cabalref11_Right.j3 (k : Nat) (p1 : api_Op) (y1 : Bool) : Option Bool :=
  (cabalref11_kind k p1 y1).bind fun x5 => some x5

def cabalref11_Right.l1 (k : Nat) (p1 : api_Op) (y1 : Bool) : Nat → Int → Option Bool
  | 0, _ => none
  | n + 1, y2 =>
    if (decide (y2 < (p1.Boxes.length : Int))) = true then ((at? p1.Boxes y2).bind fun x6 => (cabalref11_Member k x6.To).bind fun x7 => (some ((if (if (!x7) then true else (x6.To == p1.Author)) then true else (decide ((x6.Body.length : Int) > (256 : Int)))))).bind fun x8 => (if ((x8 == false) && ((decide (y2 > (0 : Int))) == true)) = true then at? p1.Boxes (isub .i64 y2 (1 : Int)) else some (⟨(0 : Int), (⟨(List.replicate 32 (0 : Int)), (0 : Int), (0 : Int)⟩ : api_Head), []⟩ : api_Box)).bind fun x9 => (some ((if (decide (y2 > (0 : Int))) then (decide (x9.To ≥ x6.To)) else false))).bind fun x10 => if (if x8 then true else x10) = true then (some false) else ((cabalref11_Right.l1 k p1 y1 n) (iadd .i64 y2 (1 : Int)))) else ((cabalref11_Right.j3 k p1 y1))

def cabalref11_Right.j2 (k : Nat) (p1 : api_Op) (y1 : Bool) : Option Bool :=
  cabalref11_Right.l1 k p1 y1 k (0 : Int)

def cabalref11_Right.l2 (k : Nat) (p1 : api_Op) : Nat → Bool → Int → Option Bool
  | 0, _, _ => none
  | n + 1, y3, y4 =>
    if (decide (y4 < (p1.Who.length : Int))) = true then ((at? p1.Who y4).bind fun x11 => (cabalref11_Member k x11).bind fun x12 => (if (((!x12) == false) && ((decide (y4 > (0 : Int))) == true)) = true then at? p1.Who (isub .i64 y4 (1 : Int)) else some (0 : Int)).bind fun x13 => (if (((!x12) == false) && ((decide (y4 > (0 : Int))) == true)) = true then at? p1.Who y4 else some (0 : Int)).bind fun x14 => (some ((if (!x12) then true else (if (decide (y4 > (0 : Int))) then (decide (x13 ≥ x14)) else false)))).bind fun x15 => if x15 = true then (some false) else ((if (y3 == false) = true then at? p1.Who y4 else some (0 : Int)).bind fun x16 => (cabalref11_Right.l2 k p1 n) (if y3 then true else (x16 == p1.Author)) (iadd .i64 y4 (1 : Int)))) else ((cabalref11_Right.j2 k p1) y3)

def cabalref11_Right.j1 (k : Nat) (p1 : api_Op) : Option Bool :=
  cabalref11_Right.l2 k p1 k false (0 : Int)

def cabalref11_Right.l3 (k : Nat) (p1 : api_Op) : Nat → Int → Option Bool
  | 0, _ => none
  | n + 1, y5 =>
    if (decide (y5 < (p1.Parents.length : Int))) = true then ((at? p1.Parents (isub .i64 y5 (1 : Int))).bind fun x17 => (at? p1.Parents y5).bind fun x18 => (cabalref11_Less k x17 x18).bind fun x19 => if (!x19) = true then (some false) else ((cabalref11_Right.l3 k p1 n) (iadd .i64 y5 (1 : Int)))) else ((cabalref11_Right.j1 k p1))

def cabalref11_Right (k : Nat) (p1 : api_Op) : Option Bool :=
  (cabalref11_Member k p1.Author).bind fun x1 => (some ((if (if (!x1) then true else (p1.Seq == (0 : Int))) then true else (decide (p1.Kind < (1 : Int)))))).bind fun x2 => (some ((if (if x2 then true else (decide (p1.Kind > (7 : Int)))) then true else (decide ((p1.Parents.length : Int) > (8 : Int)))))).bind fun x3 => (some ((if (if x3 then true else (decide ((p1.Boxes.length : Int) > (8 : Int)))) then true else (decide ((p1.Text.length : Int) > (256 : Int)))))).bind fun x4 => if x4 = true then (some false) else (cabalref11_Right.l3 k p1 k (1 : Int))

/- cabal/cabalref15.turn -/
def cabalref15_turn.j1 (k : Nat) (p2 : api_Op) (y1 : Int) : Option Bool :=
  some (p2.Seq == (iadd .u32 y1 (1 : Int)))

def cabalref15_turn.j2 (k : Nat) (y3 : Int) (L_l1 : Int → Int → Option Bool) (y4 : Int) : Option Bool :=
  L_l1 y4 (iadd .i64 y3 (1 : Int))

def cabalref15_turn.l1 (k : Nat) (p1 : (List api_Node)) (p2 : api_Op) (p3 : (List Int)) : Nat → Int → Int → Option Bool
  | 0, _, _ => none
  | n + 1, y2, y3 =>
    if (decide (y3 < (p1.length : Int))) = true then ((at? p1 y3).bind fun x1 => if (x1.Op.Author == p2.Author) = true then ((cabalref15_In k p3 y3).bind fun x2 => if (!x2) = true then (some false) else ((cabalref15_turn.j2 k y3 (cabalref15_turn.l1 k p1 p2 p3 n)) (iadd .u32 y2 (1 : Int)))) else ((cabalref15_turn.j2 k y3 (cabalref15_turn.l1 k p1 p2 p3 n)) y2)) else ((cabalref15_turn.j1 k p2) y2)

def cabalref15_turn (k : Nat) (p1 : (List api_Node)) (p2 : api_Op) (p3 : (List Int)) : Option Bool :=
  if (!decide ((p2.Kind == (1 : Int)) = ((p1.length : Int) == (0 : Int)))) = true then (some false) else (cabalref15_turn.l1 k p1 p2 p3 k (0 : Int) (0 : Int))

/- cabal/cabalref15.Right -/
def cabalref15_Right.j1 (k : Nat) : Option Bool :=
  some true

def cabalref15_Right.l1 (k : Nat) (p1 : (List api_Node)) : Nat → Int → Option Bool
  | 0, _ => none
  | n + 1, y1 =>
    if (decide (y1 < (p1.length : Int))) = true then ((cut? p1 (0 : Int) y1).bind fun x1 => (at? p1 y1).bind fun x2 => (cabalref15_Past k x1 x2.Op.Parents).bind fun x3 => (if ((!x3.2) == false) = true then at? p1 y1 else some (⟨(List.replicate 32 (0 : Int)), (⟨(0 : Int), (0 : Int), [], (0 : Int), [], (List.replicate 32 (0 : Int)), (List.replicate 32 (0 : Int)), [], []⟩ : api_Op), []⟩ : api_Node)).bind fun x4 => (if ((!x3.2) == false) = true then cabalref11_Right k x4.Op else some false).bind fun x5 => (if ((if (!x3.2) then true else (!x5)) == false) = true then cut? p1 (0 : Int) y1 else some []).bind fun x6 => (if ((if (!x3.2) then true else (!x5)) == false) = true then at? p1 y1 else some (⟨(List.replicate 32 (0 : Int)), (⟨(0 : Int), (0 : Int), [], (0 : Int), [], (List.replicate 32 (0 : Int)), (List.replicate 32 (0 : Int)), [], []⟩ : api_Op), []⟩ : api_Node)).bind fun x7 => (if ((if (!x3.2) then true else (!x5)) == false) = true then cabalref15_Find k x6 x7.Id else some (0 : Int)).bind fun x8 => (some ((if (if (!x3.2) then true else (!x5)) then true else (decide (x8 ≥ (0 : Int)))))).bind fun x9 => (if (x9 == false) = true then at? p1 y1 else some (⟨(List.replicate 32 (0 : Int)), (⟨(0 : Int), (0 : Int), [], (0 : Int), [], (List.replicate 32 (0 : Int)), (List.replicate 32 (0 : Int)), [], []⟩ : api_Op), []⟩ : api_Node)).bind fun x10 => (if (x9 == false) = true then cabalref15_SameInts k x3.1 x10.Past else some false).bind fun x11 => (if ((if x9 then true else (!x11)) == false) = true then cut? p1 (0 : Int) y1 else some []).bind fun x12 => (if ((if x9 then true else (!x11)) == false) = true then at? p1 y1 else some (⟨(List.replicate 32 (0 : Int)), (⟨(0 : Int), (0 : Int), [], (0 : Int), [], (List.replicate 32 (0 : Int)), (List.replicate 32 (0 : Int)), [], []⟩ : api_Op), []⟩ : api_Node)).bind fun x13 => (if ((if x9 then true else (!x11)) == false) = true then cabalref15_turn k x12 x13.Op x3.1 else some false).bind fun x14 => if (if (if x9 then true else (!x11)) then true else (!x14)) = true then (some false) else ((cabalref15_Right.l1 k p1 n) (iadd .i64 y1 (1 : Int)))) else ((cabalref15_Right.j1 k))

def cabalref15_Right (k : Nat) (p1 : (List api_Node)) : Option Bool :=
  if (decide ((p1.length : Int) > (96 : Int))) = true then (some false) else (cabalref15_Right.l1 k p1 k (0 : Int))

/- cabal/cabalref16.removal -/
def cabalref16_removal (k : Nat) (p1 : (List api_Node)) (p2 : (List Bool)) (p3 : Int) (p4 : Int) : Option Bool :=
  (at? p2 p3).bind fun x1 => (if (x1 == true) = true then at? p1 p3 else some (⟨(List.replicate 32 (0 : Int)), (⟨(0 : Int), (0 : Int), [], (0 : Int), [], (List.replicate 32 (0 : Int)), (List.replicate 32 (0 : Int)), [], []⟩ : api_Op), []⟩ : api_Node)).bind fun x2 => (if ((if x1 then (x2.Op.Kind == (3 : Int)) else false) == true) = true then at? p1 p3 else some (⟨(List.replicate 32 (0 : Int)), (⟨(0 : Int), (0 : Int), [], (0 : Int), [], (List.replicate 32 (0 : Int)), (List.replicate 32 (0 : Int)), [], []⟩ : api_Op), []⟩ : api_Node)).bind fun x3 => (if ((if x1 then (x2.Op.Kind == (3 : Int)) else false) == true) = true then at? x3.Op.Who (0 : Int) else some (0 : Int)).bind fun x4 => (some ((if (if x1 then (x2.Op.Kind == (3 : Int)) else false) then (x4 == p4) else false))).bind fun x5 => some x5

/- cabal/cabalref16.lets -/
def cabalref16_lets.j1 (k : Nat) : Option Bool :=
  some true

def cabalref16_lets.j2 (k : Nat) (y1 : Int) (L_l1 : Int → Option Bool) : Option Bool :=
  L_l1 (iadd .i64 y1 (1 : Int))

def cabalref16_lets.l1 (k : Nat) (p3 : (List Int)) (p2 : (List Bool)) (p1 : (List api_Node)) (p4 : Int) (x1 : api_Node) (p5 : Int) : Nat → Int → Option Bool
  | 0, _ => none
  | n + 1, y1 =>
    if (decide (y1 < (p3.length : Int))) = true then ((at? p3 y1).bind fun x5 => (at? p2 x5).bind fun x6 => (if ((!x6) == false) = true then at? p1 x5 else some (⟨(List.replicate 32 (0 : Int)), (⟨(0 : Int), (0 : Int), [], (0 : Int), [], (List.replicate 32 (0 : Int)), (List.replicate 32 (0 : Int)), [], []⟩ : api_Op), []⟩ : api_Node)).bind fun x7 => if (if (!x6) then true else (x7.Op.Kind != (3 : Int))) = true then ((cabalref16_lets.j2 k y1 (cabalref16_lets.l1 k p3 p2 p1 p4 x1 p5 n))) else ((if ((x5 != p4) == true) = true then at? p1 p4 else some (⟨(List.replicate 32 (0 : Int)), (⟨(0 : Int), (0 : Int), [], (0 : Int), [], (List.replicate 32 (0 : Int)), (List.replicate 32 (0 : Int)), [], []⟩ : api_Op), []⟩ : api_Node)).bind fun x8 => (if ((x5 != p4) == true) = true then cabalref15_In k x8.Past x5 else some false).bind fun x9 => (if ((if (x5 != p4) then (!x9) else false) == true) = true then at? p1 x5 else some (⟨(List.replicate 32 (0 : Int)), (⟨(0 : Int), (0 : Int), [], (0 : Int), [], (List.replicate 32 (0 : Int)), (List.replicate 32 (0 : Int)), [], []⟩ : api_Op), []⟩ : api_Node)).bind fun x10 => (if ((if (x5 != p4) then (!x9) else false) == true) = true then cabalref15_In k x10.Past p4 else some false).bind fun x11 => (some ((if (x1.Op.Kind == (2 : Int)) then (if (if (x5 != p4) then (!x9) else false) then (!x11) else false) else false))).bind fun x12 => (if (x12 == true) = true then cabalref16_removal k p1 p2 x5 x1.Op.Author else some false).bind fun x13 => if (if x12 then x13 else false) = true then (some false) else ((cabalref16_removal k p1 p2 x5 p5).bind fun x14 => (if (x14 == true) = true then at? p1 p4 else some (⟨(List.replicate 32 (0 : Int)), (⟨(0 : Int), (0 : Int), [], (0 : Int), [], (List.replicate 32 (0 : Int)), (List.replicate 32 (0 : Int)), [], []⟩ : api_Op), []⟩ : api_Node)).bind fun x15 => (if (x14 == true) = true then cabalref15_In k x15.Past x5 else some false).bind fun x16 => if (if x14 then (!x16) else false) = true then (some false) else ((cabalref16_lets.j2 k y1 (cabalref16_lets.l1 k p3 p2 p1 p4 x1 p5 n)))))) else ((cabalref16_lets.j1 k))

def cabalref16_lets (k : Nat) (p1 : (List api_Node)) (p2 : (List Bool)) (p3 : (List Int)) (p4 : Int) (p5 : Int) : Option Bool :=
  (at? p1 p4).bind fun x1 => (at? p2 p4).bind fun x2 => (if ((if (!x2) then true else (decide (x1.Op.Kind > (2 : Int)))) == false) = true then cabalref15_In k x1.Op.Who p5 else some false).bind fun x3 => (some ((if (if (!x2) then true else (decide (x1.Op.Kind > (2 : Int)))) then true else (!x3)))).bind fun x4 => if x4 = true then (some false) else (cabalref16_lets.l1 k p3 p2 p1 p4 x1 p5 k (0 : Int))

/- cabal/cabalref16.Roster -/
def cabalref16_Roster.j1 (k : Nat) (y1 : (List Int)) : Option (List Int) :=
  some y1

def cabalref16_Roster.j2 (k : Nat) (y2 : Int) (L_l1 : Int → (List Int) → Option (List Int)) (y4 : (List Int)) : Option (List Int) :=
  L_l1 (iadd .i64 y2 (1 : Int)) y4

def cabalref16_Roster.j3 (k : Nat) (y3 : (List Int)) (y2 : Int) (L_l1 : Int → (List Int) → Option (List Int)) (y5 : Bool) : Option (List Int) :=
  if y5 = true then (if y3.length + ([y2] : (List Int)).length ≤ lim then ((cabalref16_Roster.j2 k y2 L_l1) (y3 ++ ([y2] : (List Int)))) else none) else ((cabalref16_Roster.j2 k y2 L_l1) y3)

def cabalref16_Roster.l2 (k : Nat) (p3 : (List Int)) (p1 : (List api_Node)) (p2 : (List Bool)) (y2 : Int) (y3 : (List Int)) (L_l1 : Int → (List Int) → Option (List Int)) : Nat → Bool → Int → Option (List Int)
  | 0, _, _ => none
  | n + 1, y6, y7 =>
    if (decide (y7 < (p3.length : Int))) = true then ((if (y6 == false) = true then at? p3 y7 else some (0 : Int)).bind fun x1 => (if (y6 == false) = true then cabalref16_lets k p1 p2 p3 x1 y2 else some false).bind fun x2 => (cabalref16_Roster.l2 k p3 p1 p2 y2 y3 L_l1 n) (if y6 then true else x2) (iadd .i64 y7 (1 : Int))) else ((cabalref16_Roster.j3 k y3 y2 L_l1) y6)

def cabalref16_Roster.l1 (k : Nat) (p3 : (List Int)) (p1 : (List api_Node)) (p2 : (List Bool)) : Nat → Int → (List Int) → Option (List Int)
  | 0, _, _ => none
  | n + 1, y2, y3 =>
    if (decide (y2 < (8 : Int))) = true then (cabalref16_Roster.l2 k p3 p1 p2 y2 y3 (cabalref16_Roster.l1 k p3 p1 p2 n) k false (0 : Int)) else ((cabalref16_Roster.j1 k) y3)

def cabalref16_Roster (k : Nat) (p1 : (List api_Node)) (p2 : (List Bool)) (p3 : (List Int)) : Option (List Int) :=
  cabalref16_Roster.l1 k p3 p1 p2 k (0 : Int) ([] : (List Int))

/- cabal/cabalref16.Counts -/
def cabalref16_Counts.j1 (k : Nat) (y1 : (List Bool)) : Option (List Bool) :=
  some y1

def cabalref16_Counts.l1 (k : Nat) (p1 : (List api_Node)) : Nat → Int → (List Bool) → Option (List Bool)
  | 0, _, _ => none
  | n + 1, y2, y3 =>
    if (decide (y2 < (p1.length : Int))) = true then ((at? p1 y2).bind fun x1 => (if ((x1.Op.Kind == (1 : Int)) == false) = true then at? p1 y2 else some (⟨(List.replicate 32 (0 : Int)), (⟨(0 : Int), (0 : Int), [], (0 : Int), [], (List.replicate 32 (0 : Int)), (List.replicate 32 (0 : Int)), [], []⟩ : api_Op), []⟩ : api_Node)).bind fun x2 => (if ((x1.Op.Kind == (1 : Int)) == false) = true then cabalref16_Roster k p1 y3 x2.Past else some []).bind fun x3 => (if ((x1.Op.Kind == (1 : Int)) == false) = true then at? p1 y2 else some (⟨(List.replicate 32 (0 : Int)), (⟨(0 : Int), (0 : Int), [], (0 : Int), [], (List.replicate 32 (0 : Int)), (List.replicate 32 (0 : Int)), [], []⟩ : api_Op), []⟩ : api_Node)).bind fun x4 => (if ((x1.Op.Kind == (1 : Int)) == false) = true then cabalref15_In k x3 x4.Op.Author else some false).bind fun x5 => if y3.length + ([(if (x1.Op.Kind == (1 : Int)) then true else x5)] : (List Bool)).length ≤ lim then ((cabalref16_Counts.l1 k p1 n) (iadd .i64 y2 (1 : Int)) (y3 ++ ([(if (x1.Op.Kind == (1 : Int)) then true else x5)] : (List Bool)))) else none) else ((cabalref16_Counts.j1 k) y3)

def cabalref16_Counts (k : Nat) (p1 : (List api_Node)) : Option (List Bool) :=
  cabalref16_Counts.l1 k p1 k (0 : Int) ([] : (List Bool))

/- cabal/cabalref16.Behind -/
def cabalref16_Behind.j1 (k : Nat) (p2 : api_Op) (x4 : (List Int)) : Option ((List Int) × Int) :=
  (if ((p2.Kind == (3 : Int)) == true) = true then at? p2.Who (0 : Int) else some (0 : Int)).bind fun x6 => (if ((p2.Kind == (3 : Int)) == true) = true then cabalref15_In k x4 x6 else some false).bind fun x7 => if (if (p2.Kind == (3 : Int)) then (!x7) else false) = true then (some (([] : (List Int)), (22 : Int))) else (some (x4, (0 : Int)))

def cabalref16_Behind.l1 (k : Nat) (x2 : ((List Int) × Bool)) (p1 : (List api_Node)) (p2 : api_Op) (x4 : (List Int)) : Nat → Int → Option ((List Int) × Int)
  | 0, _ => none
  | n + 1, y1 =>
    if (decide (y1 < (x2.1.length : Int))) = true then (if (0 ≤ y1 ∧ y1 < x2.1.length) then ((at? x2.1 y1).bind fun x8 => (at? p1 x8).bind fun x9 => (if ((decide (x9.Op.Kind ≤ (2 : Int))) == true) = true then at? p2.Who (0 : Int) else some (0 : Int)).bind fun x10 => (if ((decide (x9.Op.Kind ≤ (2 : Int))) == true) = true then cabalref15_In k x9.Op.Who x10 else some false).bind fun x11 => if (if (decide (x9.Op.Kind ≤ (2 : Int))) then x11 else false) = true then (some (([] : (List Int)), (13 : Int))) else ((cabalref16_Behind.l1 k x2 p1 p2 x4 n) (iadd .i64 y1 (1 : Int)))) else none) else ((cabalref16_Behind.j1 k p2 x4))

def cabalref16_Behind (k : Nat) (p1 : (List api_Node)) (p2 : api_Op) : Option ((List Int) × Int) :=
  (cabalref11_Right k p2).bind fun x1 => if (!x1) = true then (some (([] : (List Int)), (1 : Int))) else ((cabalref15_Past k p1 p2.Parents).bind fun x2 => if (!x2.2) = true then (some (([] : (List Int)), (14 : Int))) else (if (p2.Kind == (1 : Int)) = true then (some (p2.Who, (0 : Int))) else ((cabalref16_Counts k p1).bind fun x3 => (cabalref16_Roster k p1 x3 x2.1).bind fun x4 => (cabalref15_In k x4 p2.Author).bind fun x5 => if (!x5) = true then (some (([] : (List Int)), (16 : Int))) else (if (p2.Kind == (2 : Int)) = true then (cabalref16_Behind.l1 k x2 p1 p2 x4 k (0 : Int)) else ((cabalref16_Behind.j1 k p2 x4))))))

/- cabal/cabalref16.To -/
def cabalref16_To.j1 (k : Nat) (y1 : (List Int)) : Option ((List Int) × Int) :=
  some (y1, (0 : Int))

def cabalref16_To.j2 (k : Nat) (y2 : Int) (L_l1 : Int → (List Int) → Option ((List Int) × Int)) (y4 : (List Int)) : Option ((List Int) × Int) :=
  L_l1 (iadd .i64 y2 (1 : Int)) y4

def cabalref16_To.l1 (k : Nat) (x1 : ((List Int) × Int)) (p2 : api_Op) : Nat → Int → (List Int) → Option ((List Int) × Int)
  | 0, _, _ => none
  | n + 1, y2, y3 =>
    if (decide (y2 < (8 : Int))) = true then ((cabalref15_In k x1.1 y2).bind fun x2 => (if ((x2 == false) && ((p2.Kind == (2 : Int)) == true)) = true then at? p2.Who (0 : Int) else some (0 : Int)).bind fun x3 => (some ((if x2 then true else (if (p2.Kind == (2 : Int)) then (x3 == y2) else false)))).bind fun x4 => (if (((if x4 then (y2 != p2.Author) else false) == true) && ((p2.Kind == (3 : Int)) == true)) = true then at? p2.Who (0 : Int) else some (0 : Int)).bind fun x5 => (some ((if (if x4 then (y2 != p2.Author) else false) then (!(if (p2.Kind == (3 : Int)) then (x5 == y2) else false)) else false))).bind fun x6 => if x6 = true then (if y3.length + ([y2] : (List Int)).length ≤ lim then ((cabalref16_To.j2 k y2 (cabalref16_To.l1 k x1 p2 n)) (y3 ++ ([y2] : (List Int)))) else none) else ((cabalref16_To.j2 k y2 (cabalref16_To.l1 k x1 p2 n)) y3)) else ((cabalref16_To.j1 k) y3)

def cabalref16_To (k : Nat) (p1 : (List api_Node)) (p2 : api_Op) : Option ((List Int) × Int) :=
  (cabalref16_Behind k p1 p2).bind fun x1 => if (x1.2 != (0 : Int)) = true then (some (([] : (List Int)), x1.2)) else (cabalref16_To.l1 k x1 p2 k (0 : Int) ([] : (List Int)))

/- cabal/caballaw16.RosterAllows -/
def caballaw16_RosterAllows (k : Nat) (p1 : (List api_Node)) (p2 : api_Op) : Option Bool :=
  (caballaw16_alive k).bind fun x1 => if (!x1) = true then (some false) else ((cabalref15_Great k p1).bind fun x2 => (if (x2 == false) = true then cabalref11_Great k p2 else some false).bind fun x3 => if (if x2 then true else x3) = true then ((caballaw16_alive k).bind fun x4 => some x4) else ((roster_Allowed k p1 p2).bind fun x5 => (roster_To k p1 p2).bind fun x6 => (cabalref15_Right k p1).bind fun x7 => if (!x7) = true then ((caballaw16_alive k).bind fun x8 => (some ((if (if x8 then (x5 == (1 : Int)) else false) then (x6.2 == (1 : Int)) else false))).bind fun x9 => some (if x9 then ((x6.1.length : Int) == (0 : Int)) else false)) else ((cabalref16_To k p1 p2).bind fun x10 => (caballaw16_alive k).bind fun x11 => (some ((if (if x11 then (x5 == x10.2) else false) then (x6.2 == x10.2) else false))).bind fun x12 => (if (x12 == true) = true then cabalref15_SameInts k x6.1 x10.1 else some false).bind fun x13 => some (if x12 then x13 else false))))

end Go.Proofs.Pure
